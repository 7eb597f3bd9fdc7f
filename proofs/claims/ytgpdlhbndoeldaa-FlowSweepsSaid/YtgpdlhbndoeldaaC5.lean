/-
  Joined by program (merge.py): PlainTab, PlainDrop, TabSt, RngF, Flo13, Flo14, Drawn, Drawn2, Flo15, Flo16, Flo17.
-/
import Derived.Great.BuildSlice
import Derived.Deep.Onto
import Derived.Lone
import Derived.StepT
import Derived.Shelf.SlSortCmp.NoneTotal
import Derived.Shelf.Lay
import Derived.Ground.SlsfProg
import Derived.Test.YtgpdlhbndoeldaaC1
import Derived.Test.YtgpdlhbndoeldaaC4
/-
  Plain: open addressing: what is looked for is found, what is put, what is dropped.
-/
namespace Go.Proofs.Ytgpdlhbndoeldaa
open Go.RowKit Go.Sort
set_option linter.unusedVariables false
set_option linter.unusedSimpArgs false
set_option maxRecDepth 100000

/-- from a on to b, round a ring of n -/
def dist (n a b : Nat) : Nat := (b + n - a) % n
theorem dist_lt {n a b : Nat} (h : 0 < n) : dist n a b < n := Nat.mod_lt _ h
theorem dist_add {n a b : Nat} (ha : a < n) (hb : b < n) : (a + dist n a b) % n = b := by
  unfold dist
  rw [Nat.add_mod_mod, show a + (b + n - a) = b + n by omega, Nat.add_mod_right, Nat.mod_eq_of_lt hb]
theorem dist_of {n a d : Nat} (ha : a < n) (hd : d < n) : dist n a ((a + d) % n) = d := by
  have := dist_mod (h := a) (d := 0) (dz := d) (by omega) (Nat.zero_le _) hd
  rw [Nat.add_zero, Nat.mod_eq_of_lt ha, Nat.sub_zero] at this
  exact this
theorem ring_inj {n a d e : Nat} (ha : a < n) (hd : d < n) (he : e < n) (h : (a + d) % n = (a + e) % n) : d = e := by
  rw [← dist_of ha hd, ← dist_of ha he, h]
theorem dist_self {n a : Nat} (ha : a < n) : dist n a a = 0 := by
  unfold dist
  rw [show a + n - a = n by omega, Nat.mod_self]
theorem ring_shift {n a d e : Nat} (ha : a < n) : ((a + d) % n + e) % n = (a + (d + e)) % n := by rw [Nat.mod_add_mod, Nat.add_assoc]
/-- two steps round the ring: one and the rest -/
theorem dist_split {n a b c : Nat} (ha : a < n) (hb : b < n) (hc : c < n) (h : dist n a b ≤ dist n a c) : dist n a c = dist n a b + dist n b c := by
  have hn : 0 < n := by omega
  have e1 := dist_add ha hb
  have e2 := dist_add ha hc
  have l1 := dist_lt (n := n) (a := a) (b := b) hn
  have l2 := dist_lt (n := n) (a := a) (b := c) hn
  have : dist n b c = dist n a c - dist n a b := by
    rw [← e1]
    have h3 : c = ((a + dist n a b) % n + (dist n a c - dist n a b)) % n := by
      rw [ring_shift ha, show dist n a b + (dist n a c - dist n a b) = dist n a c by omega, e2]
    conv => lhs; rw [h3]
    rw [e1]
    exact dist_of hb (by omega)
  omega

def hmS (kb : List UInt8) (n : Nat) (s : Slt) : Nat := homeN kb s.f.v.key n
/-- what a table keeps -/
structure Good (kb : List UInt8) (S : List Slt) : Prop where
  path : ∀ (j : Nat) (s : Slt), S[j]? = some s → s.used = true → ∀ e, e < dist S.length (hmS kb S.length s) j → ∀ t : Slt, S[(hmS kb S.length s + e) % S.length]? = some t → t.used = true
  keys : ∀ (i j : Nat) (si sj : Slt), S[i]? = some si → S[j]? = some sj → si.used = true → sj.used = true → si.f.v.key = sj.f.v.key → i = j
  right : ∀ (j : Nat) (s : Slt), S[j]? = some s → s.used = true → rightF s.f.v = true
  zero : ∀ (j : Nat) (s : Slt), S[j]? = some s → s.used = false → s.f.v = zeroF

theorem mem_flowsS {S : List Slt} {x : FloW} : x ∈ flowsS S ↔ ∃ (j : Nat) (s : Slt), S[j]? = some s ∧ s.used = true ∧ s.f = x := by
  unfold flowsS
  rw [List.mem_map]
  constructor
  · rintro ⟨s, hs, rfl⟩
    obtain ⟨h1, h2⟩ := List.mem_filter.1 hs
    obtain ⟨j, hj, rfl⟩ := List.mem_iff_getElem.1 h1
    exact ⟨j, _, List.getElem?_eq_getElem hj, h2, rfl⟩
  · rintro ⟨j, s, hj, hu, rfl⟩
    exact ⟨s, List.mem_filter.2 ⟨List.mem_of_getElem? hj, hu⟩, rfl⟩
theorem FloW.ext {x y : FloW} (h : x.v = y.v) : x = y := by cases x; cases y; simp only at h; subst h; rfl
/-- what a search finds -/
theorem Good.find {kb : List UInt8} {S : List Slt} (g : Good kb S) {k : Tup} {j : Nat} (hp : Probe S k (homeN kb k S.length) j) (hj : j < S.length) :
    (S[j].used = true ∧ S[j].f.v.key = k) ∨ (S[j].used = false ∧ S[j].f.v = zeroF ∧ ∀ x ∈ flowsS S, x.v.key ≠ k) := by
  obtain ⟨d, hd, hjd, hstop, hpre⟩ := hp
  have hn : 0 < S.length := by omega
  have hst := hstop _ (List.getElem?_eq_getElem hj)
  rcases two S[j].used with hu | hu
  · rcases hst with h | h
    · rw [h] at hu; cases hu
    · exact .inl ⟨hu, h⟩
  · refine .inr ⟨hu, g.zero j _ (List.getElem?_eq_getElem hj) hu, fun x hx hk => ?_⟩
    obtain ⟨i, s, hi, hus, rfl⟩ := mem_flowsS.1 hx
    have hil : i < S.length := (List.getElem?_eq_some_iff.1 hi).1
    have hh : hmS kb S.length s = homeN kb k S.length := by unfold hmS; rw [hk]
    have hhl : homeN kb k S.length < S.length := homeN_lt hn
    have hp := g.path i s hi hus
    rw [hh] at hp
    have da := dist_add hhl hil
    have dl := dist_lt (n := S.length) (a := homeN kb k S.length) (b := i) hn
    rcases Nat.lt_or_ge d (dist S.length (homeN kb k S.length) i) with h1 | h1
    · have := hp d h1 S[j] (by rw [← hjd]; exact List.getElem?_eq_getElem hj)
      rw [hu] at this; cases this
    · rcases Nat.lt_or_ge (dist S.length (homeN kb k S.length) i) d with h2 | h2
      · exact hpre _ h2 s (by rw [da]; exact hi) (.inr hk)
      · have hij : i = j := by rw [← da, hjd]; congr 2; omega
        subst hij
        rw [List.getElem?_eq_getElem hj] at hi
        cases hi
        rw [hu] at hus; cases hus
/-- the flows of a row with one slot turned -/
theorem flowsS_append (a b : List Slt) : flowsS (a ++ b) = flowsS a ++ flowsS b := by simp [flowsS]
theorem flowsS_one (s : Slt) : flowsS [s] = if s.used then [s.f] else [] := by
  unfold flowsS
  rcases two s.used with h | h <;> simp [h]
theorem flowsS_set (S : List Slt) (j : Nat) (hj : j < S.length) (s : Slt) : (flowsS (S.set j s)).Perm ((if s.used then [s.f] else []) ++ flowsS (S.set j zeroS)) := by
  have e : ∀ t : Slt, flowsS (S.set j t) = flowsS (S.take j) ++ ((if t.used then [t.f] else []) ++ flowsS (S.drop (j + 1))) := by
    intro t
    rw [List.set_eq_take_append_cons_drop, if_pos hj, flowsS_append, show t :: S.drop (j + 1) = [t] ++ S.drop (j + 1) from rfl, flowsS_append, flowsS_one]
  rw [e s, e zeroS]
  have : zeroS.used = false := rfl
  rw [this]
  simp only [Bool.false_eq_true, if_false, List.nil_append]
  rw [← List.append_assoc, ← List.append_assoc]
  exact List.Perm.append_right _ List.perm_append_comm
theorem flowsS_self (S : List Slt) (j : Nat) (hj : j < S.length) : (flowsS S).Perm ((if S[j].used then [S[j].f] else []) ++ flowsS (S.set j zeroS)) := by
  have := flowsS_set S j hj S[j]
  rwa [List.set_getElem_self] at this
theorem free_of_len {S : List Slt} (h : (flowsS S).length < S.length) : ∃ (z : Nat) (s : Slt), S[z]? = some s ∧ s.used = false := by
  rcases Classical.em (∃ (z : Nat) (s : Slt), S[z]? = some s ∧ s.used = false) with h1 | h1
  · exact h1
  · exfalso
    have : S.filter (·.used) = S := by
      rw [List.filter_eq_self]
      intro s hs
      obtain ⟨z, hz, rfl⟩ := List.mem_iff_getElem.1 hs
      rcases two S[z].used with h2 | h2
      · exact h2
      · exact absurd ⟨z, _, List.getElem?_eq_getElem hz, h2⟩ h1
    unfold flowsS at h
    rw [List.length_map, this] at h
    omega
theorem get_set {S : List Slt} {j i : Nat} {s t : Slt} (h : (S.set j s)[i]? = some t) : (i = j ∧ t = s ∧ j < S.length) ∨ (i ≠ j ∧ S[i]? = some t) := by
  rw [List.getElem?_set] at h
  split at h
  · split at h
    · cases h; exact .inl ⟨by omega, rfl, by omega⟩
    · cases h
  · exact .inr ⟨by omega, h⟩
/-- what is put -/
theorem Good.put {kb : List UInt8} {S : List Slt} (g : Good kb S) {f : FloW} {j : Nat} (hp : Probe S f.v.key (homeN kb f.v.key S.length) j) (hj : j < S.length) (hr : rightF f.v = true) : Good kb (S.set j ⟨true, f⟩) := by
  have hfind := g.find hp hj
  obtain ⟨d, hd, hjd, hstop, hpre⟩ := hp
  have hn : 0 < S.length := by omega
  have hhl : homeN kb f.v.key S.length < S.length := homeN_lt hn
  have hdist : dist S.length (homeN kb f.v.key S.length) j = d := by rw [hjd]; exact dist_of hhl hd
  refine ⟨?_, ?_, ?_, ?_⟩
  · intro i s hi hu e he t ht
    rw [List.length_set] at he ht
    rcases get_set ht with ⟨_, rfl, _⟩ | ⟨hne, ht2⟩
    · rfl
    · rcases get_set hi with ⟨rfl, rfl, _⟩ | ⟨_, hi2⟩
      · have hh : hmS kb S.length ⟨true, f⟩ = homeN kb f.v.key S.length := rfl
        rw [hh] at he ht2
        rw [hdist] at he
        have := hpre e he t ht2
        rcases two t.used with h | h
        · exact h
        · exact absurd (.inl h) this
      · exact g.path i s hi2 hu e he t ht2
  · intro a b sa sb ha hb ua ub hk
    rcases get_set ha with ⟨rfl, rfl, _⟩ | ⟨hna, ha2⟩ <;> rcases get_set hb with ⟨rfl, rfl, _⟩ | ⟨hnb, hb2⟩
    · rfl
    · exfalso
      rcases hfind with ⟨hu, hkk⟩ | ⟨_, _, hno⟩
      · exact hnb (g.keys b a sb S[a] hb2 (List.getElem?_eq_getElem hj) ub hu (by rw [hkk]; exact hk.symm))
      · exact hno sb.f (mem_flowsS.2 ⟨b, sb, hb2, ub, rfl⟩) hk.symm
    · exfalso
      rcases hfind with ⟨hu, hkk⟩ | ⟨_, _, hno⟩
      · exact hna (g.keys a b sa S[b] ha2 (List.getElem?_eq_getElem hj) ua hu (by rw [hkk]; exact hk))
      · exact hno sa.f (mem_flowsS.2 ⟨a, sa, ha2, ua, rfl⟩) hk
    · exact g.keys a b sa sb ha2 hb2 ua ub hk
  · intro i s hi hu
    rcases get_set hi with ⟨_, rfl, _⟩ | ⟨_, hi⟩
    · exact hr
    · exact g.right i s hi hu
  · intro i s hi hu
    rcases get_set hi with ⟨_, rfl, _⟩ | ⟨_, hi⟩
    · cases hu
    · exact g.zero i s hi hu
/-- the flows behind it -/
theorem Good.put_flows {kb : List UInt8} {S : List Slt} (g : Good kb S) {f : FloW} {j : Nat} (hp : Probe S f.v.key (homeN kb f.v.key S.length) j) (hj : j < S.length) : (flowsS (S.set j ⟨true, f⟩)).Perm (f :: (flowsS S).filter (fun x => decide (x.v.key ≠ f.v.key))) := by
  have h1 := flowsS_set S j hj ⟨true, f⟩
  refine h1.trans ?_
  show (f :: flowsS (S.set j zeroS)).Perm _
  refine List.Perm.cons _ ?_
  have h2 := flowsS_self S j hj
  have h3 := h2.filter (fun x => decide (x.v.key ≠ f.v.key))
  refine List.Perm.trans ?_ h3.symm
  have hrest : ∀ x ∈ flowsS (S.set j zeroS), x.v.key ≠ f.v.key := by
    intro x hx hk
    obtain ⟨i, s, hi, hu, rfl⟩ := mem_flowsS.1 hx
    rcases get_set hi with ⟨_, rfl, _⟩ | ⟨hne, hi⟩
    · cases hu
    · rcases g.find hp hj with ⟨hu2, hkk⟩ | ⟨_, _, hno⟩
      · exact hne (g.keys i j s S[j] hi (List.getElem?_eq_getElem hj) hu hu2 (by rw [hkk]; exact hk))
      · exact hno s.f (mem_flowsS.2 ⟨i, s, hi, hu, rfl⟩) hk
  have hself : (flowsS (S.set j zeroS)).filter (fun x => decide (x.v.key ≠ f.v.key)) = flowsS (S.set j zeroS) := List.filter_eq_self.2 (fun x hx => by simpa using hrest x hx)
  rw [List.filter_append, hself]
  rcases g.find hp hj with ⟨hu2, hkk⟩ | ⟨hu2, _, _⟩
  · rw [hu2]; simp [hkk]
  · rw [hu2]; simp
theorem good_new (kb : List UInt8) (n : Nat) : Good kb (List.replicate n zeroS) := by
  have h : ∀ (j : Nat) (s : Slt), (List.replicate n zeroS)[j]? = some s → s = zeroS := by
    intro j s hj
    rw [List.getElem?_replicate] at hj
    split at hj
    · cases hj; rfl
    · cases hj
  refine ⟨?_, ?_, ?_, ?_⟩
  · intro j s hj hu; rw [h j s hj] at hu; cases hu
  · intro i j si sj hi _ hu; rw [h i si hi] at hu; cases hu
  · intro j s hj hu; rw [h j s hj] at hu; cases hu
  · intro j s hj _; rw [h j s hj]; rfl
theorem flows_new (n : Nat) : flowsS (List.replicate n zeroS) = [] := by
  unfold flowsS
  rw [List.filter_replicate]
  rfl
end Go.Proofs.Ytgpdlhbndoeldaa
/-
  Plain: what is moved back into a hole stays within reach of its home.
-/
namespace Go.Proofs.Ytgpdlhbndoeldaa
open Go.RowKit Go.Sort
set_option linter.unusedVariables false
set_option linter.unusedSimpArgs false

theorem ring_cancel {n u v y : Nat} (hu : u < n) (hv : v < n) (hy : y ≤ n) (h : (u + y) % n = (v + y) % n) : u = v := by
  have e1 : ((u + y) % n + (n - y)) % n = u := by rw [Nat.mod_add_mod, show u + y + (n - y) = u + n by omega, Nat.add_mod_right, Nat.mod_eq_of_lt hu]
  have e2 : ((v + y) % n + (n - y)) % n = v := by rw [Nat.mod_add_mod, show v + y + (n - y) = v + n by omega, Nat.add_mod_right, Nat.mod_eq_of_lt hv]
  rw [← e1, ← e2, h]
theorem back_split {n a b c : Nat} (ha : a < n) (hb : b < n) (hc : c < n) (h : dist n b c ≤ dist n a c) : dist n a c = dist n a b + dist n b c := by
  have hn : 0 < n := by omega
  have e1 := dist_add ha hc
  have e2 := dist_add hb hc
  have l1 := dist_lt (n := n) (a := a) (b := c) hn
  have l2 := dist_lt (n := n) (a := b) (b := c) hn
  have k : (a + (dist n a c - dist n b c)) % n = b := by
    refine ring_cancel (Nat.mod_lt _ hn) hb (Nat.le_of_lt l2) ?_
    rw [ring_shift ha, show dist n a c - dist n b c + dist n b c = dist n a c by omega, e1, e2]
  have := dist_of ha (show dist n a c - dist n b c < n by omega)
  rw [k] at this
  omega
theorem dist_zero {n a b : Nat} (ha : a < n) (hb : b < n) (h : dist n a b = 0) : a = b := by
  have := dist_add ha hb
  rwa [h, Nat.add_zero, Nat.mod_eq_of_lt ha] at this
/-- while it is moved back: the hole is at h; scanned are d slots behind h0, the first free one is dz behind it -/
structure Hole (kb : List UInt8) (A : List Slt) (h0 dz d h : Nat) : Prop where
  lt0 : h0 < A.length
  hh : A[h]? = some zeroS
  hd : dist A.length h0 h < d
  dd : d ≤ dz
  dn : dz < A.length
  free : ∀ t : Slt, A[(h0 + dz) % A.length]? = some t → t.used = false
  path : ∀ (j : Nat) (s : Slt), A[j]? = some s → s.used = true → ∀ e, e < dist A.length (hmS kb A.length s) j → ∀ t : Slt, A[(hmS kb A.length s + e) % A.length]? = some t →
    t.used = true ∨ ((hmS kb A.length s + e) % A.length = h ∧ d ≤ dist A.length h0 j ∧ dist A.length h0 j < dz)
  keys : ∀ (i j : Nat) (si sj : Slt), A[i]? = some si → A[j]? = some sj → si.used = true → sj.used = true → si.f.v.key = sj.f.v.key → i = j
  right : ∀ (j : Nat) (s : Slt), A[j]? = some s → s.used = true → rightF s.f.v = true
  zero : ∀ (j : Nat) (s : Slt), A[j]? = some s → s.used = false → s.f.v = zeroF
theorem lt_of_some {A : List Slt} {j : Nat} {s : Slt} (h : A[j]? = some s) : j < A.length := (List.getElem?_eq_some_iff.1 h).1
theorem hm_lt {kb : List UInt8} {n : Nat} {s : Slt} (h : 0 < n) : hmS kb n s < n := homeN_lt h
/-- the hole is made -/
theorem Good.hole {kb : List UInt8} {S : List Slt} (g : Good kb S) {h0 dz : Nat} (hh0 : h0 < S.length) (h1 : 1 ≤ dz) (hdz : dz < S.length) (hfree : ∀ t : Slt, S[(h0 + dz) % S.length]? = some t → t.used = false) :
    Hole kb (S.set h0 zeroS) h0 dz 1 h0 := by
  have hn : 0 < S.length := by omega
  have hz : (h0 + dz) % S.length < S.length := Nat.mod_lt _ hn
  refine ⟨by rwa [List.length_set], by rw [List.getElem?_set]; simp [hh0], by rw [List.length_set, dist_self hh0]; omega, h1, by rwa [List.length_set], ?_, ?_, ?_, ?_, ?_⟩
  · intro t ht
    rw [List.length_set] at ht
    rcases get_set ht with ⟨_, rfl, _⟩ | ⟨_, ht2⟩
    · rfl
    · exact hfree t ht2
  · intro j s hj hu e he t ht
    rw [List.length_set] at he ht ⊢
    rcases get_set hj with ⟨_, rfl, _⟩ | ⟨hne, hj2⟩
    · cases hu
    have hjl := lt_of_some hj2
    have hml : hmS kb S.length s < S.length := hm_lt hn
    rcases get_set ht with ⟨hy, _, _⟩ | ⟨hy, ht2⟩
    · refine .inr ⟨hy, ?_, ?_⟩
      · rcases Nat.eq_zero_or_pos (dist S.length h0 j) with h | h
        · exact absurd (dist_zero hh0 hjl h).symm hne
        · exact h
      · rcases Nat.lt_or_ge (dist S.length h0 j) dz with h | h
        · exact h
        · exfalso
          have el : e < S.length := Nat.lt_trans he (dist_lt hn)
          have hde : dist S.length (hmS kb S.length s) h0 = e := by rw [← hy]; exact dist_of hml el
          have hsp := dist_split hml hh0 hjl (by omega)
          rw [hde] at hsp
          have hpos : (hmS kb S.length s + (e + dz)) % S.length = (h0 + dz) % S.length := by rw [← ring_shift hml, hy]
          rcases Nat.lt_or_ge (e + dz) (dist S.length (hmS kb S.length s) j) with h2 | h2
          · have := g.path j s hj2 hu (e + dz) h2 S[(h0 + dz) % S.length] (by rw [hpos]; exact List.getElem?_eq_getElem hz)
            rw [hfree _ (List.getElem?_eq_getElem hz)] at this; cases this
          · have hj3 : (h0 + dz) % S.length = j := by
              rw [← hpos, show e + dz = dist S.length (hmS kb S.length s) j by omega]; exact dist_add hml hjl
            have := hfree s (by rw [hj3]; exact hj2)
            rw [hu] at this; cases this
    · exact .inl (g.path j s hj2 hu e he t ht2)
  · intro i j si sj hi hj ui uj hk
    rcases get_set hi with ⟨_, rfl, _⟩ | ⟨_, hi2⟩
    · cases ui
    rcases get_set hj with ⟨_, rfl, _⟩ | ⟨_, hj2⟩
    · cases uj
    exact g.keys i j si sj hi2 hj2 ui uj hk
  · intro j s hj hu
    rcases get_set hj with ⟨_, rfl, _⟩ | ⟨_, hj2⟩
    · cases hu
    · exact g.right j s hj2 hu
  · intro j s hj hu
    rcases get_set hj with ⟨_, rfl, _⟩ | ⟨_, hj2⟩
    · rfl
    · exact g.zero j s hj2 hu
/-- all is moved -/
theorem Hole.done {kb : List UInt8} {A : List Slt} {h0 dz h : Nat} (g : Hole kb A h0 dz dz h) : Good kb A :=
  ⟨fun j s hj hu e he t ht => by rcases g.path j s hj hu e he t ht with h | ⟨_, h1, h2⟩; exact h; omega, g.keys, g.right, g.zero⟩
/-- what may stay, stays -/
theorem Hole.stay {kb : List UInt8} {A : List Slt} {h0 dz d h i : Nat} {s : Slt} (g : Hole kb A h0 dz d h) (hd : d < dz) (hi : i = (h0 + d) % A.length) (hs : A[i]? = some s) (hfar : dist A.length (hmS kb A.length s) i < dist A.length h i) : Hole kb A h0 dz (d + 1) h := by
  have hn : 0 < A.length := by have := g.lt0; omega
  refine ⟨g.lt0, g.hh, by have := g.hd; omega, hd, g.dn, g.free, ?_, g.keys, g.right, g.zero⟩
  intro j t hj hu e he u hu2
  rcases g.path j t hj hu e he u hu2 with h1 | ⟨h1, h2, h3⟩
  · exact .inl h1
  · refine .inr ⟨h1, ?_, h3⟩
    rcases Nat.lt_or_ge d (dist A.length h0 j) with h4 | h4
    · exact h4
    · exfalso
      have hjl := lt_of_some hj
      have hij : j = i := by
        rw [hi, show d = dist A.length h0 j by omega]
        exact (dist_add g.lt0 hjl).symm
      have hts : s = t := by rw [← hij, hj] at hs; exact (Option.some.inj hs).symm
      rw [hts, ← hij] at hfar
      have hml : hmS kb A.length t < A.length := hm_lt hn
      have el : e < A.length := Nat.lt_trans he (dist_lt hn)
      have hhl := lt_of_some g.hh
      have hde : dist A.length (hmS kb A.length t) h = e := by rw [← h1]; exact dist_of hml el
      have hsp := dist_split hml hhl hjl (by omega)
      omega
/-- what may not, is moved into the hole -/
theorem Hole.move {kb : List UInt8} {A : List Slt} {h0 dz d h i : Nat} {s : Slt} (g : Hole kb A h0 dz d h) (hd : d < dz) (hi : i = (h0 + d) % A.length) (hs : A[i]? = some s) (hus : s.used = true) (hfar : dist A.length h i ≤ dist A.length (hmS kb A.length s) i) : Hole kb ((A.set h s).set i zeroS) h0 dz (d + 1) i := by
  have hn : 0 < A.length := by have := g.lt0; omega
  have hil := lt_of_some hs
  have hhl := lt_of_some g.hh
  have hdi : dist A.length h0 i = d := by rw [hi]; exact dist_of g.lt0 (by have := g.dn; omega)
  have hne : i ≠ h := fun e => by have := g.hd; rw [← e, hdi] at this; omega
  have hml : ∀ t : Slt, hmS kb A.length t < A.length := fun t => hm_lt hn
  have hL : ((A.set h s).set i zeroS).length = A.length := by rw [List.length_set, List.length_set]
  -- a slot of the new row
  have gg : ∀ (j : Nat) (t : Slt), ((A.set h s).set i zeroS)[j]? = some t → (j = i ∧ t = zeroS) ∨ (j = h ∧ t = s) ∨ (j ≠ i ∧ j ≠ h ∧ A[j]? = some t) := by
    intro j t ht
    rcases get_set ht with ⟨e1, e2, _⟩ | ⟨e1, ht2⟩
    · exact .inl ⟨e1, e2⟩
    · rcases get_set ht2 with ⟨e3, e4, _⟩ | ⟨e3, ht3⟩
      · exact .inr (.inl ⟨e3, e4⟩)
      · exact .inr (.inr ⟨e1, e3, ht3⟩)
  refine ⟨by rw [hL]; exact g.lt0, by rw [List.getElem?_set]; simp [hil], by rw [hL, hdi]; omega, hd, by rw [hL]; exact g.dn, ?_, ?_, ?_, ?_, ?_⟩
  · intro t ht
    rw [hL] at ht
    rcases gg _ t ht with ⟨_, rfl⟩ | ⟨e1, _⟩ | ⟨_, _, ht3⟩
    · rfl
    · exfalso
      have : dist A.length h0 h = dz := by rw [← e1]; exact dist_of g.lt0 g.dn
      have := g.hd; omega
    · exact g.free t ht3
  · intro j t0 hj hu e he t ht
    rw [hL] at he ht ⊢
    rcases gg j t0 hj with ⟨_, rfl⟩ | ⟨e1, e2⟩ | ⟨hji, hjh, hj3⟩
    · cases hu
    · subst e2
      rw [e1] at he
      have hsp := back_split (hml t0) hhl hil hfar
      have el : e < A.length := Nat.lt_trans he (dist_lt hn)
      have hpi := g.path i t0 hs hus e (by omega) 
      have ny : (hmS kb A.length t0 + e) % A.length ≠ h := fun hy => by
        have : dist A.length (hmS kb A.length t0) h = e := by rw [← hy]; exact dist_of (hml t0) el
        omega
      have ni : (hmS kb A.length t0 + e) % A.length ≠ i := fun hy => by
        have : dist A.length (hmS kb A.length t0) i = e := by rw [← hy]; exact dist_of (hml t0) el
        omega
      rcases gg _ t ht with ⟨hy, _⟩ | ⟨hy, _⟩ | ⟨_, _, ht3⟩
      · exact absurd hy ni
      · exact absurd hy ny
      · rcases hpi t ht3 with h1 | ⟨h1, _⟩
        · exact .inl h1
        · exact absurd h1 ny
    · have hjl := lt_of_some hj3
      have el : e < A.length := Nat.lt_trans he (dist_lt hn)
      rcases gg _ t ht with ⟨hy, _⟩ | ⟨hy, rfl⟩ | ⟨_, nyh, ht3⟩
      · refine .inr ⟨hy, ?_⟩
        have hde : dist A.length (hmS kb A.length t0) i = e := by rw [← hy]; exact dist_of (hml t0) el
        have hsp := dist_split (hml t0) hil hjl (by omega)
        rw [hde] at hsp
        have hm1 : 0 < dist A.length i j := by
          rcases Nat.eq_zero_or_pos (dist A.length i j) with h1 | h1
          · exact absurd (dist_zero hil hjl h1).symm hji
          · exact h1
        have hjpos : (h0 + (d + dist A.length i j)) % A.length = j := by rw [← ring_shift g.lt0, ← hi]; exact dist_add hil hjl
        rcases Nat.lt_or_ge (d + dist A.length i j) dz with h1 | h1
        · have : dist A.length h0 j = d + dist A.length i j := by rw [← hjpos]; rw [hjpos]; conv => lhs; rw [← hjpos]
                                                                  exact dist_of g.lt0 (by have := g.dn; omega)
          omega
        · exfalso
          have hpos : (hmS kb A.length t0 + (e + (dz - d))) % A.length = (h0 + dz) % A.length := by
            rw [← ring_shift (hml t0), hy, hi, ring_shift g.lt0, show d + (dz - d) = dz by omega]
          have hzl : (h0 + dz) % A.length < A.length := Nat.mod_lt _ hn
          have hfr := g.free _ (List.getElem?_eq_getElem hzl)
          rcases Nat.lt_or_ge (e + (dz - d)) (dist A.length (hmS kb A.length t0) j) with h2 | h2
          · rcases g.path j t0 hj3 hu _ h2 A[(h0 + dz) % A.length] (by rw [hpos]; exact List.getElem?_eq_getElem hzl) with h3 | ⟨h3, _⟩
            · rw [hfr] at h3; cases h3
            · rw [hpos] at h3
              have : dist A.length h0 h = dz := by rw [← h3]; exact dist_of g.lt0 g.dn
              have := g.hd; omega
          · have hj4 : (h0 + dz) % A.length = j := by
              rw [← hpos, show e + (dz - d) = dist A.length (hmS kb A.length t0) j by omega]; exact dist_add (hml t0) hjl
            have := g.free t0 (by rw [hj4]; exact hj3)
            rw [hu] at this; cases this
      · exact .inl hus
      · rcases g.path j t0 hj3 hu e he t ht3 with h1 | ⟨h1, _⟩
        · exact .inl h1
        · exact absurd h1 nyh
  · intro a b sa sb ha hb ua ub hk
    rcases gg a sa ha with ⟨_, rfl⟩ | ⟨ea, rfl⟩ | ⟨nai, nah, ha3⟩
    · cases ua
    · rcases gg b sb hb with ⟨_, rfl⟩ | ⟨eb, _⟩ | ⟨nbi, nbh, hb3⟩
      · cases ub
      · omega
      · exact absurd (g.keys i b sa sb hs hb3 ua ub hk).symm nbi
    · rcases gg b sb hb with ⟨_, rfl⟩ | ⟨eb, rfl⟩ | ⟨nbi, nbh, hb3⟩
      · cases ub
      · exact absurd (g.keys a i sa sb ha3 hs ua ub hk) nai
      · exact g.keys a b sa sb ha3 hb3 ua ub hk
  · intro j t hj hu
    rcases gg j t hj with ⟨_, rfl⟩ | ⟨_, rfl⟩ | ⟨_, _, hj3⟩
    · cases hu
    · exact g.right i t hs hu
    · exact g.right j t hj3 hu
  · intro j t hj hu
    rcases gg j t hj with ⟨_, rfl⟩ | ⟨_, rfl⟩ | ⟨_, _, hj3⟩
    · rfl
    · rw [hus] at hu; cases hu
    · exact g.zero j t hj3 hu
/-- .. and the flows are those that they were -/
theorem Hole.flows {kb : List UInt8} {A : List Slt} {h0 dz d h i : Nat} {s : Slt} (g : Hole kb A h0 dz d h) (hs : A[i]? = some s) (hus : s.used = true) (hne : i ≠ h) : (flowsS ((A.set h s).set i zeroS)).Perm (flowsS A) := by
  have hil := lt_of_some hs
  have hhl := lt_of_some g.hh
  have hA : A.set h zeroS = A := by
    have : A[h] = zeroS := by have := g.hh; rw [List.getElem?_eq_getElem hhl] at this; exact Option.some.inj this
    rw [← this]; exact List.set_getElem_self hhl
  have h1 := flowsS_set A h hhl s
  rw [hA, hus] at h1
  have h2 := flowsS_self (A.set h s) i (by rwa [List.length_set])
  have e : (A.set h s)[i]'(by rwa [List.length_set]) = s := by
    rw [List.getElem_set_ne (Ne.symm hne)]
    rw [List.getElem?_eq_getElem hil] at hs
    exact Option.some.inj hs
  rw [e, hus] at h2
  have h3 := h2.symm.trans h1
  simp only [if_true, List.singleton_append] at h3
  exact List.Perm.cons_inv h3
end Go.Proofs.Ytgpdlhbndoeldaa
/-
  Chapter 21: a slot stored, the count stored; what a table's own functions turn.
-/
namespace Go.Proofs.Ytgpdlhbndoeldaa
open Go.RowKit Go.Sort
set_option linter.unusedVariables false
set_option linter.unusedSimpArgs false
set_option maxRecDepth 100000

theorem setCells_heap : ∀ (vs : List Value) (o : Nat) (w : World) (b : Nat) (cs : List Value) (T : TypeId) (fz : Nat × Nat), w.heap[b]? = some (.cells cs.toArray T fz) → o + vs.length ≤ cs.length →
    (w.setCells b o vs).heap[b]? = some (.cells (cs.take o ++ (vs ++ cs.drop (o + vs.length))).toArray T fz)
  | [], o, w, b, cs, T, fz, h, _ => by rw [List.nil_append, List.length_nil, Nat.add_zero, List.take_append_drop]; exact h
  | v :: vs, o, w, b, cs, T, fz, h, hl => by
    unfold World.setCells
    have h1 := block_set (j := o) (v := v) h
    rw [List.setIfInBounds_toArray] at h1
    rw [setCells_heap vs (o + 1) _ b (cs.set o v) T fz h1 (by simp at hl ⊢; omega)]
    congr 3
    simp only [List.length_cons] at hl
    rw [List.take_succ_eq_append_getElem (by simp; omega)]
    simp only [List.getElem_set_self, List.append_assoc, List.singleton_append, List.cons_append]
    rw [List.take_set_of_le (Nat.le_refl _), List.drop_set_of_lt (by omega), List.length_cons, show o + 1 + vs.length = o + (vs.length + 1) by omega]
    rfl
theorem setCells_other : ∀ (vs : List Value) (o : Nat) (w : World) (b k : Nat), k ≠ b → (w.setCells b o vs).heap[k]? = w.heap[k]?
  | [], _, _, _, _, _ => rfl
  | v :: vs, o, w, b, k, h => by
    unfold World.setCells
    rw [setCells_other vs (o + 1) _ b k h]
    exact Below.heap_setCell _ _ _ _ h
theorem setCells_grown : ∀ (vs : List Value) (o : Nat) (w : World) (b : Nat), w.grownBy (w.setCells b o vs) (some b)
  | [], _, w, b => ⟨rfl, rfl, rfl, Nat.le_refl _, fun _ _ _ => rfl⟩
  | v :: vs, o, w, b => by
    have h := setCells_grown vs (o + 1) (w.setCell ⟨b, o, none⟩ v) b
    have h0 := set_grown w b o v
    exact ⟨h.os.trans h0.os, h.tape.trans h0.tape, h.output.trans h0.output, Nat.le_trans h0.size h.size, fun k hk hne => by
      rw [setCells_other (v :: vs) o w b k (fun e => hne (by rw [e]))]⟩
theorem rowC_set (S : List Slt) (j : Nat) (hj : j < S.length) (s : Slt) : rowC (S.set j s) = (rowC S).take (j * 42) ++ (s.cells ++ (rowC S).drop (j * 42 + 42)) := by
  have e : ∀ t : Slt, rowC (S.set j t) = rowC (S.take j) ++ (t.cells ++ rowC (S.drop (j + 1))) := by
    intro t
    rw [List.set_eq_take_append_cons_drop, if_pos hj]
    simp [rowC]
  have hS := e S[j]
  rw [List.set_getElem_self] at hS
  have hl : (rowC (S.take j)).length = j * 42 := by rw [rowC_length, List.length_take, Nat.min_eq_left (Nat.le_of_lt hj)]
  rw [e s, hS, List.take_left' hl]
  congr 2
  rw [← List.append_assoc, List.drop_left']
  rw [List.length_append, hl, Slt.length]
theorem Tb.store {w : World} {p q : Nat} {kb : List UInt8} {room cnt : Nat} {S : List Slt} (h : Tb w p q kb room cnt S) (hpq : p ≠ q) (j : Nat) (hj : j < S.length) (s : Slt) :
    Tb (w.setCells q (j * 42) s.cells) p q kb room cnt (S.set j s) ∧ w.grownBy (w.setCells q (j * 42) s.cells) (some q) := by
  have hl := Slt.length s
  refine ⟨⟨?_, ?_, h.hk, by rw [List.length_set]; exact h.h0, by rw [List.length_set]; exact h.hn⟩, setCells_grown _ _ _ _⟩
  · rw [List.length_set, setCells_other _ _ _ _ _ hpq]; exact h.hp
  · rw [setCells_heap _ _ _ _ _ _ _ h.hq (by rw [rowC_length, hl]; have := Nat.mul_le_mul_right 42 (show j + 1 ≤ S.length from hj); omega), hl, rowC_set S j hj s]
theorem Tb.there {w : World} {p q : Nat} {kb : List UInt8} {room cnt : Nat} {S : List Slt} (h : Tb w p q kb room cnt S) (j : Nat) (hj : j < S.length) (n : Nat) (hn : n ≤ 42) : w.there q (j * 42) n := fun i hi => by
  have hlt : j * 42 + i < (rowC S).length := by rw [rowC_length]; have := Nat.mul_le_mul_right 42 (show j + 1 ≤ S.length from hj); omega
  refine ⟨?_, frz h.hq _⟩
  rw [cells_get h.hq, List.getElem?_eq_getElem hlt]
  rfl
theorem wpL_storeSlot {ops : Array Oper} {rest : List Oper} {o : Oper} {a : Act} {w : World} {Q : Exit → Act → World → Prop} (hgd : o.guard = none) (x y : Operand) (ho : o.op = .store 79 x y)
    {p q : Nat} {kb : List UInt8} {room cnt : Nat} {S : List Slt} (ht : Tb w p q kb room cnt S) (hpq : p ≠ q) (j : Nat) (hj : j < S.length) (s : Slt) (hx : a.eval x = .pointer (some ⟨q, j * 42, none⟩)) (hy : a.eval y = .agg s.cells.toArray)
    (h : ∀ w1, Tb w1 p q kb room cnt (S.set j s) → w.grownBy w1 (some q) → wpList Try.prog ops Q rest (a.put o.dst undef) w1) : wpList Try.prog ops Q (o :: rest) a w := by
  have hs := ht.store hpq j hj s
  have hsz : s.cells.toArray.size = 42 := by rw [List.size_toArray]; exact Slt.length s
  refine wpList_store_mid hgd 79 x y ho q (j * 42) s.cells.toArray hx hy (by rw [hsz]; exact ht.there j hj 42 (Nat.le_refl _)) (by rw [hsz]; exact slt_size) (slot_one s) (h _ ?_ ?_)
  · exact hs.1
  · exact hs.2
theorem step_storeSlot {ops : Array Oper} {o : Oper} {a : Act} {w : World} {K : Act → World → Prop} {Q : Exit → Act → World → Prop} {E : Prop} (hgd : o.guard = none) (x y : Operand) (ho : o.op = .store 79 x y)
    {p q : Nat} {kb : List UInt8} {room cnt : Nat} {S : List Slt} (ht : Tb w p q kb room cnt S) (hpq : p ≠ q) (j : Nat) (hj : j < S.length) (s : Slt) (hx : a.eval x = .pointer (some ⟨q, j * 42, none⟩)) (hy : a.eval y = .agg s.cells.toArray)
    (h : ∀ w1, Tb w1 p q kb room cnt (S.set j s) → w.grownBy w1 (some q) → K (a.put o.dst undef) w1) : if Region.wanted o (yielded ops a.tmps) = true then Oper.wp Try.prog o a w K Q else E := by
  rw [if_pos (by simp [Region.wanted, hgd])]
  have hs := ht.store hpq j hj s
  have hsz : s.cells.toArray.size = 42 := by rw [List.size_toArray]; exact Slt.length s
  refine wp_store_mid 79 x y ho q (j * 42) s.cells.toArray hx hy (by rw [hsz]; exact ht.there j hj 42 (Nat.le_refl _)) (by rw [hsz]; exact slt_size) (slot_one s) (h _ ?_ ?_)
  · exact hs.1
  · exact hs.2
theorem tabC_set {kb : List UInt8} (h : kb.length = 16) (room cnt c' q n : Nat) : (tabC kb room cnt q n).toArray.setIfInBounds 17 (.int .i64 (c' : Int)) = (tabC kb room c' q n).toArray := by
  rw [List.setIfInBounds_toArray]
  congr 1
  have e : (BV kb).length = 16 := by rw [BV_length, h]
  unfold tabC
  rw [List.set_append_right _ _ (by omega), e]
  rfl
theorem wpL_storeCnt {ops : Array Oper} {rest : List Oper} {o : Oper} {a : Act} {w : World} {Q : Exit → Act → World → Prop} (hgd : o.guard = none) (x y : Operand) (ho : o.op = .store 3 x y)
    {p q : Nat} {kb : List UInt8} {room cnt : Nat} {S : List Slt} (ht : Tb w p q kb room cnt S) (hpq : p ≠ q) (c' : Nat) (hx : a.eval x = .pointer (some ⟨p, 17, none⟩)) (hy : a.eval y = .int .i64 (c' : Int))
    (h : ∀ w1, Tb w1 p q kb room c' S → w.grownBy w1 (some p) → wpList Try.prog ops Q rest (a.put o.dst undef) w1) : wpList Try.prog ops Q (o :: rest) a w := by
  refine wpL_storeF hgd 3 x y ho p 17 (.int .i64 (c' : Int)) hx hy rfl ht.hp (by rw [List.size_toArray, tabC_length ht.hk]; decide) (by kernel_rfl) _ (tabC_set ht.hk room cnt c' q S.length) ?_
  intro w1 h1 h2
  exact h w1 ⟨h1, (h2.block q (lt_of_block ht.hq) (fun e => hpq (Option.some.inj e).symm)).trans ht.hq, ht.hk, ht.h0, ht.hn⟩ h2
/-- but for two blocks, what was there is as it was -/
structure But (p q : Nat) (w w' : World) : Prop where
  os : w'.os = w.os
  tape : w'.tape = w.tape
  output : w'.output = w.output
  size : w.heap.size ≤ w'.heap.size
  block : ∀ k, k < w.heap.size → k ≠ p → k ≠ q → w'.heap[k]? = w.heap[k]?
theorem But.of_below {p q : Nat} {w w' : World} (h : Below w.heap.size w w') : But p q w w' := ⟨h.os, h.tape, h.output, h.size, fun k hk _ _ => h.block k hk⟩
theorem But.of_p {p q : Nat} {w w' : World} (h : w.grownBy w' (some p)) : But p q w w' := ⟨h.os, h.tape, h.output, h.size, fun k hk hp _ => h.block k hk (fun e => hp (Option.some.inj e))⟩
theorem But.of_q {p q : Nat} {w w' : World} (h : w.grownBy w' (some q)) : But p q w w' := ⟨h.os, h.tape, h.output, h.size, fun k hk _ hq => h.block k hk (fun e => hq (Option.some.inj e))⟩
theorem But.trans {p q : Nat} {a b c : World} (h : But p q a b) (k : But p q b c) : But p q a c :=
  ⟨k.os.trans h.os, k.tape.trans h.tape, k.output.trans h.output, Nat.le_trans h.size k.size, fun i hi hp hq => (k.block i (Nat.lt_of_lt_of_le hi h.size) hp hq).trans (h.block i hi hp hq)⟩
theorem But.below {p q B : Nat} {v w w' : World} (h : But p q w w') (hb : Below B v w) (hp : B ≤ p) (hq : B ≤ q) (hB : B ≤ v.heap.size) : Below B v w' :=
  ⟨h.os.trans hb.os, h.tape.trans hb.tape, h.output.trans hb.output, Nat.le_trans hb.size h.size, fun k hk => (h.block k (by have := hb.size; omega) (by omega) (by omega)).trans (hb.block k hk)⟩
end Go.Proofs.Ytgpdlhbndoeldaa
/-
  What a loop over an iterator may keep of its own; appends of structs (written by program out of PcOwn, PcFrK, PcFrames, PcStp).
-/
namespace Go.Proofs.Ytgpdlhbndoeldaa
open Go.RowKit Go.Sort Go.Shelf
set_option linter.unusedVariables false
set_option linter.unusedSimpArgs false

section
variable {w w' : World} {row : Option Nat}
theorem heap_grown (hg : w.grownBy w' row) (hr : ∀ r, row = some r → ∃ o : Obj, w.heap[r]? = some o ∧ o.isCells = false) {k : Nat} {cs : Array Value} {ty : TypeId} {fz : Nat × Nat} (h : w.heap[k]? = some (.cells cs ty fz)) : w'.heap[k]? = some (.cells cs ty fz) :=
  (hg.block k (lt_of_block h) (fun e => by
    obtain ⟨o, ho, hc⟩ := hr k e.symm
    rw [h] at ho
    cases ho
    simp [Obj.isCells] at hc)).trans h
theorem cell_grown (hg : w.grownBy w' row) (hr : ∀ r, row = some r → ∃ o : Obj, w.heap[r]? = some o ∧ o.isCells = false) {x : Addr} {u : Value} (h : w.cell? x = some u) : w'.cell? x = some u :=
  hg.cell h (fun e => by
    obtain ⟨o, ho, hc⟩ := hr x.block e.symm
    obtain ⟨b, off, rfl, hb⟩ := cell_addr h
    simp only [World.cell?] at h
    simp only at ho
    rw [ho] at h
    cases o <;> simp [Obj.isCells] at h hc)
theorem Sl.grown' {ad : Option Addr} {n c size : Nat} {vs : List Value} (h : Sl w ad n c size vs) (hg : w.grownBy w' row) (hr : ∀ r, row = some r → ∃ o : Obj, w.heap[r]? = some o ∧ o.isCells = false) : Sl w' ad n c size vs :=
  h.of_same fun x j u _ hc => cell_grown hg hr hc
theorem own_of {base : Nat} {e : TypeId} {size : Nat} {ad : Option Addr} {n c : Nat} {xs : List Value} (h : w.ownsRow base e size (.slice ad n c) n xs) (hk : ∀ (g : Nat) (cs : Array Value), base ≤ g → w.heap[g]? = some (.cells cs e (0, 0)) → w'.heap[g]? = some (.cells cs e (0, 0))) : w'.ownsRow base e size (.slice ad n c) n xs := by
  obtain ⟨h1, h2⟩ := h
  refine ⟨h1, ?_⟩
  rcases h2 with h2 | ⟨g, cap, cur, hv, hg, hh, r⟩
  · exact .inl h2
  · exact .inr ⟨g, cap, cur, hv, hg, hk g cur hg hh, r⟩
theorem own_grown {base : Nat} {e : TypeId} {size : Nat} {ad : Option Addr} {n c : Nat} {xs : List Value} (h : w.ownsRow base e size (.slice ad n c) n xs) (hg : w.grownBy w' row) (hr : ∀ r, row = some r → ∃ o : Obj, w.heap[r]? = some o ∧ o.isCells = false) : w'.ownsRow base e size (.slice ad n c) n xs :=
  own_of h fun g cs _ hh => heap_grown hg hr hh
end
theorem KeepsFrom.write {n₀ g : Nat} {A B : World} (hg : A.grownBy B (some g)) {cs : Array Value} {ty : TypeId} {fz : Nat × Nat} (hc : A.heap[g]? = some (.cells cs ty fz)) : KeepsFrom n₀ A B :=
  (KeepsOthers.of_grownBy hg (fun j o e ho => by cases e; rw [hc] at ho; cases ho; rfl)).from n₀
theorem KeepsFrom.below {n₀ : Nat} {A B : World} (hb : Below A.heap.size A B) : KeepsFrom n₀ A B := ⟨hb.size, fun k o _ hk _ => (hb.block k (lt_of_block hk)).trans hk⟩
theorem KeepsFrom.own {n₀ base : Nat} {A B : World} {e : TypeId} {size : Nat} {ad : Option Addr} {n c : Nat} {xs : List Value} (ho : A.ownsRow base e size (.slice ad n c) n xs) (hg : A.grownBy B (Value.ownBlock (.slice ad n c))) : KeepsFrom n₀ A B :=
  (KeepsOthers.of_grownBy hg (fun j o ej hj => by
    rcases ho.2 with ⟨h0, _⟩ | ⟨r, cap, cur, hv, _, hr, _⟩
    · rw [h0] at ej; simp [Value.ownBlock] at ej
    · rw [hv] at ej
      simp [Value.ownBlock] at ej
      subst ej
      rw [hr] at hj
      cases hj
      rfl)).from n₀
theorem wpLI_append {F : Fence} {nF : Nat} {P : Program} {w : World} {ops : Array Oper} {rest : List Oper} {o : Oper} {a : Act} {Q : Exit → Act → World → Prop} {t e : TypeId} {size bytes : Nat} {z : Value} (hF : ∀ f, F.fn f) (el : Elem P t e size bytes z)
    (hgd : Region.wanted o (yielded ops a.tmps) = true) (s x : Operand) (ho : o.op = .call { callee := .builtin .append, args := #[s, x], argTypes := #[t, t] })
    (base : Nat) {ad : Option Addr} {n c : Nat} {xs : List Value} (hs : a.eval s = .slice ad n c) (hown : w.ownsRow base e size (.slice ad n c) n xs)
    {ad2 : Option Addr} {m c2 : Nat} {news : List Value} (hx : a.eval x = .slice ad2 m c2) (hsl : Sl w ad2 m c2 size news) (h1 : ∀ u ∈ news, u.oneCell' = true)
    (h63 : n + m ≤ maxLen) (hbytes : (n + m) * bytes ≤ 140737488355328) (hbase : base ≤ w.heap.size)
    (h : ∀ ad' c' w', w'.ownsRow base e size (.slice ad' (n + m) c') (n + m) (xs ++ news) → w.grownBy w' (Value.ownBlock (.slice ad n c)) →
      wpListIn F nF P ops Q rest (a.put o.dst (.slice ad' (n + m) c')) w') :
    wpListIn F nF P ops Q (o :: rest) a w := by
  obtain ⟨ad', c', w', hr, h2, h3, h4, h5⟩ := run_append (P := P) (ty := o.type) el (base := base) hown hsl h1 h63 hbytes hbase
  refine wpLI_run hF hgd (v := .slice ad' (n + m) c') (w' := w') (by rw [ho]; intro c e; cases e) ?_ (h ad' c' w' h2 h3)
  unfold execOp
  simp only [ho, resolve, invoke, builtin, Sem.run_bind, Sem.run_pure, Result.andThen_ok, List.map_toArray, List.map_cons, List.map_nil, hs, hx, hr]
theorem run_lit1 {P : Program} {o : Oper} {a : Act} {w : World} (t e : TypeId) (x : Operand) (ho : o.op = .buildSlice t 1 #[(0, x)]) (cs zs : Array Value) (hx : a.eval x = .agg cs) (k : Nat) (hu : P.underlying t = some (.slice e))
    (hi : (P.info? e).map (fun i => (i.zero, i.size)) = some (some (.agg zs), k)) (hk : 0 < k) (hk2 : k ≤ 16777216)
    (hf : Instr.fill (fun i => some (i * k, k)) ((Array.range (1 * k)).map (zs[· % zs.size]!)) [(0, .agg cs)] = some cs) :
    (execOp a.eval o).run P w = .ok (.value (.slice (some ⟨w.heap.size, 0, none⟩) 1 1)) (w.alloc (.cells cs e)) := by
  cases hie : P.info? e with
  | none => simp [hie] at hi
  | some ie =>
    simp only [hie, Option.map_some, Option.some.injEq, Prod.mk.injEq] at hi
    obtain ⟨hz, hs⟩ := hi
    have hrun := run_buildSlice (P := P) w t e 1 #[(0, .agg cs)] cs ie (.agg zs) hu hie hz (by rw [hs]; omega) (by rw [hs]; omega) (by rw [hs]; exact hf)
    unfold execOp
    simp only [ho, List.map_toArray, List.map_cons, List.map_nil, hx, Sem.run_bind, hrun, Result.andThen_ok, Sem.run_pure]
theorem wpLI_lit1 {F : Fence} {n : Nat} {P : Program} {ops : Array Oper} {Q : Exit → Act → World → Prop} {a : Act} {w : World} {rest : List Oper} {o : Oper} (hF : ∀ f, F.fn f) (hgd : o.guard = none) (t e : TypeId) (x : Operand) (ho : o.op = .buildSlice t 1 #[(0, x)]) (cs zs : Array Value) (hx : a.eval x = .agg cs) (k : Nat) (hu : P.underlying t = some (.slice e))
    (hi : (P.info? e).map (fun i => (i.zero, i.size)) = some (some (.agg zs), k)) (hk : 0 < k) (hk2 : k ≤ 16777216)
    (hf : Instr.fill (fun i => some (i * k, k)) ((Array.range (1 * k)).map (zs[· % zs.size]!)) [(0, .agg cs)] = some cs)
    (h : ∀ w1 g, w.heap.size ≤ g → g < w1.heap.size → w1.heap[g]? = some (.cells cs e (0, 0)) → Below w.heap.size w w1 → wpListIn F n P ops Q rest (a.put o.dst (.slice (some ⟨g, 0, none⟩) 1 1)) w1) :
    wpListIn F n P ops Q (o :: rest) a w :=
  wpLI_run hF (by simp [Region.wanted, hgd]) (by rw [ho]; intro c e; cases e) (run_lit1 t e x ho cs zs hx k hu hi hk hk2 hf)
    (h _ _ (Nat.le_refl _) (by simp) (heap_alloc_last w _) ((Below.refl _ _).alloc (Nat.le_refl _) _))
theorem wpL_lit1 {P : Program} {ops : Array Oper} {Q : Exit → Act → World → Prop} {a : Act} {w : World} {rest : List Oper} {o : Oper} (hgd : o.guard = none) (t e : TypeId) (x : Operand) (ho : o.op = .buildSlice t 1 #[(0, x)]) (cs zs : Array Value) (hx : a.eval x = .agg cs) (k : Nat) (hu : P.underlying t = some (.slice e))
    (hi : (P.info? e).map (fun i => (i.zero, i.size)) = some (some (.agg zs), k)) (hk : 0 < k) (hk2 : k ≤ 16777216)
    (hf : Instr.fill (fun i => some (i * k, k)) ((Array.range (1 * k)).map (zs[· % zs.size]!)) [(0, .agg cs)] = some cs)
    (h : ∀ w1 g, w.heap.size ≤ g → g < w1.heap.size → w1.heap[g]? = some (.cells cs e (0, 0)) → Below w.heap.size w w1 → wpList P ops Q rest (a.put o.dst (.slice (some ⟨g, 0, none⟩) 1 1)) w1) :
    wpList P ops Q (o :: rest) a w :=
  wpL_run (by simp [Region.wanted, hgd]) (run_lit1 t e x ho cs zs hx k hu hi hk hk2 hf)
    (h _ _ (Nat.le_refl _) (by simp) (heap_alloc_last w _) ((Below.refl _ _).alloc (Nat.le_refl _) _))
theorem own_other {w w' : World} {b1 b2 : Nat} {e1 e2 : TypeId} {s1 s2 : Nat} {ad1 ad2 : Option Addr} {n1 n2 c1 c2 : Nat} {xs ys : List Value} (h : w.ownsRow b1 e1 s1 (.slice ad1 n1 c1) n1 xs) (k : w.ownsRow b2 e2 s2 (.slice ad2 n2 c2) n2 ys) (hg : w.grownBy w' (Value.ownBlock (.slice ad2 n2 c2))) (hne : e1 ≠ e2) : w'.ownsRow b1 e1 s1 (.slice ad1 n1 c1) n1 xs :=
  own_of h fun g cs hb hh => (hg.block g (lt_of_block hh) (fun e => by
    rcases k.2 with ⟨h0, _⟩ | ⟨r, cap, cur, hv, _, hr, _⟩
    · rw [h0] at e; simp [Value.ownBlock] at e
    · rw [hv] at e
      simp [Value.ownBlock] at e
      subst e
      rw [hr] at hh
      cases hh
      exact hne rfl)).trans hh
theorem hat {W w' : World} {k : Nat} {o : Obj} (hE : Hid (Below W.heap.size W w')) (h : Hid (W.heap[k]? = some o)) : w'.heap[k]? = some o := (hE.out.block k (lt_of_block h.out)).trans h.out
theorem own_write {w w' : World} {base g : Nat} {e ty : TypeId} {size : Nat} {ad : Option Addr} {n c : Nat} {xs : List Value} {cs : Array Value} {fz : Nat × Nat} (h : w.ownsRow base e size (.slice ad n c) n xs) (hg : w.grownBy w' (some g)) (hc : w.heap[g]? = some (.cells cs ty fz)) (hne : ty ≠ e) : w'.ownsRow base e size (.slice ad n c) n xs :=
  own_of h fun k cs' hb hh => (hg.block k (lt_of_block hh) (fun e => by cases e; rw [hc] at hh; cases hh; exact hne rfl)).trans hh
theorem sl_block {w : World} {g : Nat} {cs : List Value} {ty : TypeId} {fz : Nat × Nat} (h : w.heap[g]? = some (.cells cs.toArray ty fz)) : Sl w (some ⟨g, 0, none⟩) 1 1 cs.length cs :=
  ⟨by simp, Nat.le_refl _, by simp [maxLen], (fun e => by cases e), fun j u hj => ⟨_, rfl, by
    have hg := cells_get h j
    unfold Addr.add
    split
    · rename_i e; subst e; rw [hg]; exact hj
    · simp only [Nat.zero_add]; rw [hg]; exact hj⟩⟩
theorem sl_blockN {w : World} {g n size : Nat} {cs : List Value} {ty : TypeId} {fz : Nat × Nat} (h : w.heap[g]? = some (.cells cs.toArray ty fz)) (hn : cs.length = n * size) (hm : n ≤ maxLen) : Sl w (some ⟨g, 0, none⟩) n n size cs :=
  ⟨hn, Nat.le_refl _, hm, (fun e => by cases e), fun j u hj => ⟨_, rfl, by
    have hg := cells_get h j
    unfold Addr.add
    split
    · rename_i e; subst e; rw [hg]; exact hj
    · simp only [Nat.zero_add]; rw [hg]; exact hj⟩⟩
theorem ownFrom_cells {α : Type} (B R : Nat) (f : α → Array Value) (ty : TypeId) (p : α → Prop) : OwnFrom B (fun s W => p s ∧ W.heap[R]? = some (.cells (f s) ty (0, 0))) :=
  fun s W W' row hs hg hr => ⟨hs.1, (hg.block R (lt_of_block hs.2) (fun e => by
    obtain ⟨_, o, ho, hc⟩ := hr R e.symm
    rw [hs.2] at ho
    cases ho
    simp [Obj.isCells] at hc)).trans hs.2⟩
theorem fold1 (p : Nat) (u : Value) (t : Array Value) : (#[p].zip #[u]).foldl (fun t x => t.setIfInBounds x.1 x.2) t = t.setIfInBounds p u := by simp
end Go.Proofs.Ytgpdlhbndoeldaa
/-
  Chapter 21: oldest: walked.
-/
namespace Go.Proofs.Ytgpdlhbndoeldaa
open Go.RowKit Go.Sort Go.Shelf
set_option linter.unusedVariables false
set_option linter.unusedSimpArgs false
set_option maxRecDepth 100000
set_option maxHeartbeats 8000000
attribute [local go_sem] Oper.semAt_some

/-- the oldest so far -/
def minStep (b : Option FloW) (f : FloW) : Option FloW :=
  match b with
  | none => some f
  | some b => if oldF f.v b.v then some f else some b
def minL (l : List FloW) : Option FloW := l.foldl minStep none
theorem minL_snoc (l : List FloW) (f : FloW) : minL (l ++ [f]) = minStep (minL l) f := by simp [minL, List.foldl_append]
def minV (b : Option FloW) : Flo := match b with | some b => b.v | none => zeroF
theorem minL_none {l : List FloW} : (minL l).isNone = l.isEmpty := by
  rcases List.eq_nil_or_concat l with rfl | ⟨L, b, rfl⟩
  · rfl
  · rw [List.concat_eq_append, minL_snoc]
    cases h : minL L with
    | none => simp [minStep]
    | some c => simp only [minStep]; split <;> simp
theorem minL_from : ∀ (l : List FloW) (b0 : Option FloW) (b : FloW), l.foldl minStep b0 = some b → b ∈ l ∨ b0 = some b
  | [], b0, b, h => .inr h
  | x :: l, b0, b, h => by
    rw [List.foldl_cons] at h
    rcases minL_from l _ b h with h1 | h1
    · exact .inl (List.mem_cons_of_mem _ h1)
    · cases b0 with
      | none => simp only [minStep, Option.some.injEq] at h1; subst h1; simp
      | some c =>
        simp only [minStep] at h1
        split at h1
        · cases h1; simp
        · exact .inr h1
theorem minL_mem {l : List FloW} {b : FloW} (h : minL l = some b) : b ∈ l := by
  rcases minL_from l none b h with h | h
  · exact h
  · cases h
def noOk (f : Flo) : Prop := 0 ≤ f.no ∧ f.no ≤ 1152921504606846976
/-- what the loop keeps -/
def IOld (g2 g3 g4 : Nat) (w0 : World) (pre : List FloW) (W : World) : Prop :=
  W.heap[g2]? = some (.cells zeroF.cells.toArray 28 (0, 0)) ∧ W.heap[g3]? = some (.cells (minV (minL pre)).cells.toArray 28 (0, 0)) ∧ W.heap[g4]? = some (.cells #[.bool (minL pre).isNone] 4 (0, 0)) ∧ Below w0.heap.size w0 W ∧ ∀ y ∈ pre, noOk y.v
theorem ownFrom_old (g2 g3 g4 B : Nat) (w0 : World) (h : w0.heap.size ≤ B) : OwnFrom B (IOld g2 g3 g4 w0) := fun s W W' row ⟨h1, h2, h3, h4, h5⟩ hg hr =>
  ⟨heap_grown hg (fun r e => (hr r e).2) h1, heap_grown hg (fun r e => (hr r e).2) h2, heap_grown hg (fun r e => (hr r e).2) h3, h4.grown hg h4.size (fun k e => Nat.le_trans h (hr k e).1), h5⟩
theorem IOld.below {g2 g3 g4 : Nat} {w0 A B : World} {pre : List FloW} (h : IOld g2 g3 g4 w0 pre A) (hb : Below A.heap.size A B) : IOld g2 g3 g4 w0 pre B :=
  ⟨(hb.block _ (lt_of_block h.1)).trans h.1, (hb.block _ (lt_of_block h.2.1)).trans h.2.1, (hb.block _ (lt_of_block h.2.2.1)).trans h.2.2.1, h.2.2.2.1.trans (hb.mono h.2.2.2.1.size), h.2.2.2.2⟩
def AxF (Pp : FloW → Prop) (fr : FloW → Nat → Array Value) (x : FloW) (a : Act) (W : World) : Prop := Pp x ∧ ∃ b5, a = ⟨fr x b5, []⟩ ∧ W.heap[b5]? = some (.cells x.v.cells.toArray 28 (0, 0))
theorem ownFrom_axF (Pp : FloW → Prop) (fr : FloW → Nat → Array Value) (x : FloW) (a : Act) (B : Nat) : OwnFrom B (fun (_ : Unit) W => AxF Pp fr x a W) := fun s W W' row ⟨hp, b5, h0, h1⟩ hg hr =>
  ⟨hp, b5, h0, heap_grown hg (fun r e => (hr r e).2) h1⟩
theorem results_cell1 {P : Program} {fn : Func} {tmps : Array Value} {w : World} {t4 : Tmp} {T : TypeId} {g : Nat} {cs : List Value} {d : TypeDesc}
    (h : fn.results = #[.cell t4 T]) (hp : tmps.getD t4 undef = .pointer (some ⟨g, 0, none⟩)) (hc : w.rangeAt g 0 cs) (hu : P.underlying T = some d) (hd : d.isRow = true) (hi : (P.info? T).map (·.size) = some cs.length) :
    (results fn tmps).run P w = .ok (.agg cs.toArray) w := by
  have hp' : tmps[t4]?.getD undef = .pointer (some ⟨g, 0, none⟩) := by simpa using hp
  simp [results, h, hp', asAddr, run_loadVar_mid w g 0 T cs d hc hu hd hi]
theorem ownFrom_pure {α : Type} (B : Nat) (p : α → Prop) : OwnFrom B (fun s (_ : World) => p s) := fun s W W' row hs _ _ => hs
theorem oldest_any (p q : Nat) (kb : List UInt8) (room cnt : Nat) (S : List Slt) (hno : ∀ x ∈ flowsS S, noOk x.v) (w : World) (ht : Tb w p q kb room cnt S) :
    Calls Try.prog 41 #[.pointer (some ⟨p, 0, none⟩)] w fun e w' => e = .returned (.agg (minV (minL (flowsS S))).cells.toArray) ∧ Below w.heap.size w w' := by
  have HB := Lib.hid (Below.refl w.heap.size w)
  have HT := Lib.hid ht
  have HNO := Lib.hid hno
  have HIF := Lib.hid flo_info
  clear ht hno
  refine (callsIn_wide (n := 8)).1 (callsIn_of_wp_marks Try.func41 rfl trivial (wpIn_wide.2 ?_) rfl)
  simp only [Try.ntmps41, List.size_toArray, List.length_cons, List.length_nil, Nat.reduceAdd, Nat.reduceSub, Array.replicate_succ, Array.replicate_zero, List.push_toArray, List.append_toArray, List.nil_append, List.cons_append]
  go_wp2_with (first
    | ((with_reducible refine sl 2 ?_); go_must (refine wpL_allocG rfl 28 rfl _ zeroF.cells.toArray 41 HIF.out rfl ?_); intro w2 g2 he__ le_g2 lt_g2 hg__ hb__; have HG2 := Lib.hid hg__; have hE__ := cU HB bup hb__; replace HB := ck HB hE__; clear hE__; clear hg__ hb__ he__; simp only [PT])
    | ((with_reducible refine sl 3 ?_); go_must (refine wpL_allocG rfl 28 rfl _ zeroF.cells.toArray 41 HIF.out rfl ?_); intro w3 g3 he__ le_g3 lt_g3 hg__ hb__; have HG3 := Lib.hid hg__; have l23 : g2 ≠ g3 := (by omega); have l03 : w.heap.size ≤ g3 := (by have := HB.out.size; omega); have hE__ := cU HB bup hb__; replace HB := ck HB hE__; replace HG2 := ck HG2 hE__; clear hE__; clear hg__ hb__ he__; simp only [PT])
    | ((with_reducible refine sl 4 ?_); go_must (refine wpL_allocG rfl 4 rfl (.bool false) #[.bool false] 1 (by kernel_rfl) rfl ?_); intro w4 g4 he__ le_g4 lt_g4 hg__ hb__; have HG4 := Lib.hid hg__; have l24 : g2 ≠ g4 := (by omega); have l34 : g3 ≠ g4 := (by omega); have l04 : w.heap.size ≤ g4 := (by have := HB.out.size; omega); have hE__ := cU HB bup hb__; replace HB := ck HB hE__; replace HG2 := ck HG2 hE__; replace HG3 := ck HG3 hE__; clear hE__; clear hg__ hb__ he__; simp only [PT])
    | ((with_reducible show wpList _ _ _ (⟨none, .store _ (.tmp 4) _, _, _, _, _⟩ :: _) _ _); go_must (refine wpL_storeF rfl 4 (.tmp 4) (.const (.bool true)) rfl g4 0 (.bool true) rfl rfl rfl HG4.out (show (0 : Nat) < 1 by decide) (by kernel_rfl) #[.bool true] rfl ?_); intro w5 hs__ hr__; replace HB := cg HB bup hr__ l04; replace HG2 := cg HG2 bup hr__ l24; replace HG3 := cg HG3 bup hr__ l34; clear HG4; have HG4 := Lib.hid hs__; clear hs__ hr__; simp only [PT])
    | (go_at_call 39; go_must (refine (all_any p _).mono ?_); intro e w6 hr; obtain ⟨B, rfl, hBB, le_B, hb__⟩ := hr; have hE__ := cU HB bup hb__; replace HB := ck HB hE__; replace HG2 := ck HG2 hE__; replace HG3 := ck HG3 hE__; replace HG4 := ck HG4 hE__; clear hE__; have HBB := Lib.hid hBB; clear hb__ hBB))
  refine (wpIn_wide (n := 8)).1 ?_
  have hsz := HB.out.size
  refine wpIn_rangeFunc_all rfl (by omega) (gf := 52) (lb := #[.pointer (some ⟨B, 0, none⟩)]) rfl trivial (enters_of Try.func52 (by kernel_rfl) rfl)
    (all_seq _ (by omega) B p q kb room cnt S w w6 HT.out HB.out HBB.out) (fun h k => h.trans k) (belowK_b hsz) (Below.refl _ _) (fun _ => rfl)
    (fun m A A' k ob st hk hkm _ hA => (st.block k (lt_of_block hA)).trans hA)
    (IOld g2 g3 g4 w) (ownFrom_old _ _ _ _ _ hsz) (fun s A A' m hm hi st => hi.below st)
    (ownFrom_pure _ _) ⟨HG2.out, HG3.out, HG4.out, HB.out, fun y hy => absurd hy List.not_mem_nil⟩
    (AxF (fun x => x ∈ flowsS S) fun x b5 => #[.pointer (some ⟨p, 0, none⟩), undef, .pointer (some ⟨g2, 0, none⟩), .pointer (some ⟨g3, 0, none⟩), .pointer (some ⟨g4, 0, none⟩), .pointer (some ⟨b5, 0, none⟩), .pointer (some ⟨p, 0, none⟩), .func (.func 52) #[] #[.pointer (some ⟨B, 0, none⟩)], .agg x.v.cells.toArray, undef, undef, undef, undef, undef, undef, undef, undef]) (fun x a' => ownFrom_axF _ _ _ _ _) ?assign ?body ?done
  case assign =>
    intro l pre x W K hI hP hK
    simp only [encF, fold1]
    simp only [PT]
    have hF : ∀ f, (Fence.wide.inRound l).fn f := fun _ => trivial
    have HII := Lib.hid hI
    have HK := Lib.hid hK
    have HE := Lib.hid (Below.refl W.heap.size W)
    have hszW := hI.2.2.2.1.size
    have HIX : Hid ((Try.prog.info? 28).map (fun i => (i.zero, i.size)) = some (some (.agg zeroF.cells.toArray), x.v.cells.toArray.size)) := Lib.hid (by rw [List.size_toArray, Flo.length x.ok]; exact flo_info)
    clear hI hK
    gi_wp2_with (first
      | ((with_reducible refine slI 5 ?_); go_must (refine wpLI_newN hF rfl rfl 28 rfl (.tmp 5) (.tmp 8) rfl x.v.cells.toArray _ HIX.out (by rw [List.size_toArray, List.size_toArray, Flo.length x.ok, Flo.length zeroF_ok]) (flo_one _) (fun _ => rfl) (fun _ => rfl) ?_); intro w7 g5 le_g5 lt_g5 hg__ hb__; have HG5 := Lib.hid hg__; replace HE := ck HE hb__; clear hg__ hb__; simp only [PT]))
    exact HK.out _ _ (KeepsFrom.below HE.out) (HE.out.mono hszW) (HII.out.below HE.out) ⟨hP, g5, by simp, HG5.out⟩
  case body =>
    rintro l pre x a' W hl hI ⟨hP, b5, rfl, h5⟩ hlt
    have hF : ∀ f, (Fence.wide.inRound l).fn f := fun _ => trivial
    have hszW := hI.2.2.2.1.size
    have HII := Lib.hid hI
    have H5 := Lib.hid h5
    have HE := Lib.hid (Below.refl W.heap.size W)
    have HXN := Lib.hid (HNO.out x hP)
    have HIX : Hid ((Try.prog.info? 28).map (·.size) = some x.v.cells.length) := Lib.hid (by rw [Flo.length x.ok]; exact flo_size)
    have HML := Lib.hid (minL_snoc pre x)
    have HMN := Lib.hid (minL_none (l := pre ++ [x]))
    have HG3 := Lib.hid hI.2.1
    have HG4 := Lib.hid hI.2.2.1
    have HG2 := Lib.hid hI.1
    have HBW := Lib.hid hI.2.2.2.1
    clear hI hP h5
    cases hm : minL pre with
    | none =>
      have HM := Lib.hid hm
      rw [hm] at HG3 HG4
      clear hm
      have HXX : Hid (minL (pre ++ [x]) = some x) := Lib.hid (by rw [HML.out, HM.out]; rfl)
      gi_wp2_with (first
        | ((with_reducible refine slI 9 ?_); go_must (refine wpLI_loadF hF rfl 4 (.tmp 4) rfl g4 0 rfl (.bool true) HG4.out rfl Try.underlying4 rfl ?_); simp only [PT])
        | ((with_reducible refine slI 15 ?_); go_must (refine wpLI_load hF rfl 28 (.tmp 5) rfl b5 0 rfl x.v.cells _ (range_block (hat HE H5)) Try.underlying28 rfl HIX.out ?_); simp only [PT])
        | ((with_reducible show wpListIn _ _ _ _ _ (⟨none, .store _ (.tmp 3) _, _, _, _, _⟩ :: _) _ _); go_must (refine wpLI_storeRow hF rfl 28 (.tmp 3) (.tmp 15) rfl g3 x.v.cells.toArray rfl rfl HG3.out (by rw [List.size_toArray]; exact HIX.out) (by rw [List.size_toArray, List.size_toArray, Flo.length x.ok]; exact Flo.length zeroF_ok) (flo_one _) ?_); intro w8 hs__ hr__; have HK8 := Lib.hid (KeepsFrom.write (n₀ := w6.heap.size) hr__ HG3.out); have HKb := Lib.hid ((Below.refl w.heap.size W).grown hr__ hszW (fun k e => by cases e; exact l03)); replace HBW := cg HBW bup hr__ l03; replace HG2 := cg HG2 bup hr__ l23; replace HG4 := cg HG4 bup hr__ (Ne.symm l34); clear HG3 HE; have HG3 := Lib.hid hs__; clear hs__ hr__; simp only [PT])
        | ((with_reducible show wpListIn _ _ _ _ _ (⟨none, .store _ (.tmp 4) _, _, _, _, _⟩ :: _) _ _); go_must (refine wpLI_storeF hF rfl 4 (.tmp 4) (.const (.bool false)) rfl g4 0 (.bool false) rfl rfl rfl HG4.out (show (0 : Nat) < 1 by decide) (by kernel_rfl) #[.bool false] rfl ?_); intro w9 hs__ hr__; have HK9 := Lib.hid (HK8.out.trans (KeepsFrom.write hr__ HG4.out)); replace HKb := Lib.hid (HKb.out.grown hr__ (Nat.le_trans hszW HKb.out.size) (fun k e => by cases e; exact l04)); replace HBW := cg HBW bup hr__ l04; replace HG2 := cg HG2 bup hr__ l24; replace HG3 := cg HG3 bup hr__ l34; clear HG4; have HG4 := Lib.hid hs__; clear hs__ hr__; simp only [PT]))
      exact ⟨HK9.out, HKb.out, HG2.out, by rw [HXX.out]; exact HG3.out, by rw [HXX.out]; exact HG4.out, HBW.out, fun y hy => by rcases List.mem_append.1 hy with h | h; exact HII.out.2.2.2.2 y h; rw [List.mem_singleton.1 h]; exact HXN.out⟩
    | some b =>
      have HM := Lib.hid hm
      rw [hm] at HG3 HG4
      have HBN := Lib.hid (HII.out.2.2.2.2 b (minL_mem hm))
      have HIB : Hid ((Try.prog.info? 28).map (·.size) = some b.v.cells.length) := Lib.hid (by rw [Flo.length b.ok]; exact flo_size)
      clear hm
      rcases two (oldF x.v b.v) with ho | ho
      · have HXX : Hid (minL (pre ++ [x]) = some x) := Lib.hid (by rw [HML.out, HM.out]; simp [minStep, ho])
        have HO := Lib.hid ho
        clear ho
        gi_wp2_with (first
          | ((with_reducible refine slI 9 ?_); go_must (refine wpLI_loadF hF rfl 4 (.tmp 4) rfl g4 0 rfl (.bool false) HG4.out rfl Try.underlying4 rfl ?_); simp only [PT])
          | ((with_reducible refine slI 11 ?_); refine wpLI_load hF rfl 28 (.tmp 5) rfl b5 0 rfl x.v.cells _ (range_block (hat HE H5)) Try.underlying28 rfl HIX.out ?_; simp only [PT])
          | ((with_reducible refine slI 12 ?_); refine wpLI_load hF rfl 28 (.tmp 3) rfl g3 0 rfl b.v.cells _ (range_block HG3.out) Try.underlying28 rfl HIB.out ?_; simp only [PT])
          | (gi_at_call 15; go_must (refine (callsIn_wide.2 (older_any x.v b.v x.ok b.ok HXN.out HBN.out _)).mono ?_); rw [HO.out]; rintro e w7 ⟨rfl, hb__⟩; replace HE := ck HE hb__; replace HG2 := ck HG2 hb__; replace HG3 := ck HG3 hb__; replace HG4 := ck HG4 hb__; replace HBW := ck HBW hb__; clear hb__)
          | ((with_reducible refine slI 15 ?_); go_must (refine wpLI_load hF rfl 28 (.tmp 5) rfl b5 0 rfl x.v.cells _ (range_block (hat HE H5)) Try.underlying28 rfl HIX.out ?_); simp only [PT])
          | ((with_reducible show wpListIn _ _ _ _ _ (⟨none, .store _ (.tmp 3) _, _, _, _, _⟩ :: _) _ _); go_must (refine wpLI_storeRow hF rfl 28 (.tmp 3) (.tmp 15) rfl g3 x.v.cells.toArray rfl rfl HG3.out (by rw [List.size_toArray]; exact HIX.out) (by rw [List.size_toArray, List.size_toArray, Flo.length x.ok]; exact Flo.length b.ok) (flo_one _) ?_); intro w8 hs__ hr__; have HK8 := Lib.hid ((KeepsFrom.below (n₀ := w6.heap.size) HE.out).trans (KeepsFrom.write hr__ HG3.out)); have HKb := Lib.hid ((HE.out.mono hszW).grown hr__ (Nat.le_trans hszW HE.out.size) (fun k e => by cases e; exact l03)); replace HBW := cg HBW bup hr__ l03; replace HG2 := cg HG2 bup hr__ l23; replace HG4 := cg HG4 bup hr__ (Ne.symm l34); clear HG3 HE; have HG3 := Lib.hid hs__; clear hs__ hr__; simp only [PT])
          | ((with_reducible show wpListIn _ _ _ _ _ (⟨none, .store _ (.tmp 4) _, _, _, _, _⟩ :: _) _ _); go_must (refine wpLI_storeF hF rfl 4 (.tmp 4) (.const (.bool false)) rfl g4 0 (.bool false) rfl rfl rfl HG4.out (show (0 : Nat) < 1 by decide) (by kernel_rfl) #[.bool false] rfl ?_); intro w9 hs__ hr__; have HK9 := Lib.hid (HK8.out.trans (KeepsFrom.write hr__ HG4.out)); replace HKb := Lib.hid (HKb.out.grown hr__ (Nat.le_trans hszW HKb.out.size) (fun k e => by cases e; exact l04)); replace HBW := cg HBW bup hr__ l04; replace HG2 := cg HG2 bup hr__ l24; replace HG3 := cg HG3 bup hr__ l34; clear HG4; have HG4 := Lib.hid hs__; clear hs__ hr__; simp only [PT]))
        exact ⟨HK9.out, HKb.out, HG2.out, by rw [HXX.out]; exact HG3.out, by rw [HXX.out]; exact HG4.out, HBW.out, fun y hy => by rcases List.mem_append.1 hy with h | h; exact HII.out.2.2.2.2 y h; rw [List.mem_singleton.1 h]; exact HXN.out⟩
      · have HXX : Hid (minL (pre ++ [x]) = some b) := Lib.hid (by rw [HML.out, HM.out]; simp [minStep, ho])
        have HO := Lib.hid ho
        clear ho
        gi_wp2_with (first
          | ((with_reducible refine slI 9 ?_); go_must (refine wpLI_loadF hF rfl 4 (.tmp 4) rfl g4 0 rfl (.bool false) HG4.out rfl Try.underlying4 rfl ?_); simp only [PT])
          | ((with_reducible refine slI 11 ?_); refine wpLI_load hF rfl 28 (.tmp 5) rfl b5 0 rfl x.v.cells _ (range_block (hat HE H5)) Try.underlying28 rfl HIX.out ?_; simp only [PT])
          | ((with_reducible refine slI 12 ?_); refine wpLI_load hF rfl 28 (.tmp 3) rfl g3 0 rfl b.v.cells _ (range_block HG3.out) Try.underlying28 rfl HIB.out ?_; simp only [PT])
          | (gi_at_call 15; go_must (refine (callsIn_wide.2 (older_any x.v b.v x.ok b.ok HXN.out HBN.out _)).mono ?_); rw [HO.out]; rintro e w7 ⟨rfl, hb__⟩; replace HE := ck HE hb__; replace HG2 := ck HG2 hb__; replace HG3 := ck HG3 hb__; replace HG4 := ck HG4 hb__; replace HBW := ck HBW hb__; clear hb__))
        exact ⟨KeepsFrom.below HE.out, HE.out.mono hszW, HG2.out, by rw [HXX.out]; exact HG3.out, by rw [HXX.out]; exact HG4.out, HBW.out, fun y hy => by rcases List.mem_append.1 hy with h | h; exact HII.out.2.2.2.2 y h; rw [List.mem_singleton.1 h]; exact HXN.out⟩
  case done =>
    rintro D xs W hD rfl ⟨h2, h3, h4, hb, _⟩ hK
    have HG2 := Lib.hid h2
    have HG3 := Lib.hid h3
    have HBW := Lib.hid hb
    have HD : Hid _ := Lib.hid hD
    have HKD := Lib.hid hK
    obtain ⟨M, hM⟩ : ∃ M, M = minV (minL (flowsS S)) := ⟨_, rfl⟩
    have hMo : M.ok := by
      rw [hM]
      cases h : minL (flowsS S) with
      | none => exact zeroF_ok
      | some b => exact b.ok
    rw [← hM] at HG3
    have HM := Lib.hid hM
    have l02 : w.heap.size ≤ g2 := (by omega)
    have HIM : Hid ((Try.prog.info? 28).map (·.size) = some M.cells.length) := Lib.hid (by rw [Flo.length hMo]; exact flo_size)
    have HML := Lib.hid (Flo.length hMo)
    have ltD := lt_of_block hK
    have neD2 : D ≠ g2 := fun e => by subst e; rw [hK] at h2; cases h2
    clear h2 h3 h4 hb hD hK hM hMo
    go_wp2_with (first
      | ((with_reducible refine sl 16 ?_); go_must (refine wpL_load rfl 28 (.tmp 3) rfl g3 0 rfl M.cells _ (range_block HG3.out) Try.underlying28 rfl HIM.out ?_); simp only [PT])
      | ((with_reducible show wpList _ _ _ (⟨none, .store _ (.tmp 2) _, _, _, _, _⟩ :: _) _ _); go_must (refine wpL_storeRow rfl 28 (.tmp 2) (.tmp 16) rfl g2 M.cells.toArray rfl rfl HG2.out (by rw [List.size_toArray]; exact HIM.out) (by rw [List.size_toArray, List.size_toArray, HML.out]; exact Flo.length zeroF_ok) (flo_one _) ?_); intro w8 hs__ hr__; replace HKD := Lib.hid ((hr__.block D ltD (fun e => neD2 (Option.some.inj e))).trans HKD.out); replace HBW := cg HBW bup hr__ l02; clear HG2; have HG2 := Lib.hid hs__; clear hs__ hr__; simp only [PT]))
    refine ⟨by simp, .inl ⟨_, _, rfl, run_takeDeferred HKD.out, ?_⟩⟩
    refine ⟨_, results_cell1 rfl rfl (range_block (fz := (0, 0)) (ty := 28) ((World.putObj_heap_other (Ne.symm neD2)).trans HG2.out)) Try.underlying28 rfl HIM.out, ?_⟩
    exact ⟨by rw [HM.out], HBW.out.trans (belowK_b (w := w) (Nat.le_refl _) w8 D _ _ (by have := HD.out; omega) HKD.out rfl rfl)⟩
end Go.Proofs.Ytgpdlhbndoeldaa
/-
  Chapter 21: the flows collected: walked.
-/
namespace Go.Proofs.Ytgpdlhbndoeldaa
open Go.RowKit Go.Sort Go.Shelf
set_option linter.unusedVariables false
set_option linter.unusedSimpArgs false
set_option maxRecDepth 100000
set_option maxHeartbeats 8000000
attribute [local go_sem] Oper.semAt_some

def flosC (l : List FloW) : List Value := l.flatMap fun x => x.v.cells
theorem FloW.length (x : FloW) : x.v.cells.length = 41 := Flo.length x.ok
theorem flosC_length (l : List FloW) : (flosC l).length = l.length * 41 := flat_len _ _ FloW.length l
theorem flosC_at (l : List FloW) (i j : Nat) (hi : i < l.length) (hj : j < 41) : (flosC l)[i * 41 + j]? = l[i].v.cells[j]? := flat_at _ _ FloW.length l i j hi hj
theorem flosC_snoc (l : List FloW) (x : FloW) : flosC (l ++ [x]) = flosC l ++ x.v.cells := by simp [flosC]
theorem elFl : Elem Try.prog 38 28 41 104 (.agg zeroF.cells.toArray) := ⟨Try.underlying38, by kernel_rfl, rfl, by omega⟩
theorem fill_whole1 (n : Nat) (Z : Array Value) (v : Value) (vs : List Value) (hZ : Z.size = n) (hv : v.cells = vs.toArray) (hn : vs.length = n) : Instr.fill (fun i => some (i * n, n)) Z [(0, v)] = some vs.toArray := by
  obtain ⟨L⟩ := Z
  have hL : L.length = n := hZ
  have e := fill_one (fun i => some (i * n, n)) L 0 0 n v vs [] (by simp) hv hn (by omega)
  rw [e, fill_nil]
  simp [hL]
theorem fill_flow (x : FloW) : Instr.fill (fun i => some (i * 41, 41)) ((Array.range (1 * 41)).map (zeroF.cells.toArray[· % zeroF.cells.toArray.size]!)) [(0, .agg x.v.cells.toArray)] = some x.v.cells.toArray :=
  fill_whole1 41 _ _ x.v.cells (by simp) rfl (FloW.length x)
/-- what the loop keeps: the flows so far -/
def IApp (g2 B : Nat) (w0 : World) (pre : List FloW) (W : World) : Prop := ∃ ad c, W.heap[g2]? = some (.cells #[.slice ad pre.length c] 38 (0, 0)) ∧ W.ownsRow B 28 41 (.slice ad pre.length c) pre.length (flosC pre) ∧ Below w0.heap.size w0 W ∧ B ≤ W.heap.size
theorem ownFrom_app (g2 B B' : Nat) (w0 : World) (h : w0.heap.size ≤ B') : OwnFrom B' (IApp g2 B w0) := fun s W W' row ⟨ad, c, h1, h2, h3, h4⟩ hg hr =>
  ⟨ad, c, heap_grown hg (fun r e => (hr r e).2) h1, own_grown h2 hg (fun r e => (hr r e).2), h3.grown hg h3.size (fun k e => Nat.le_trans h (hr k e).1), Nat.le_trans h4 hg.size⟩
theorem IApp.below {g2 B : Nat} {w0 A A' : World} {pre : List FloW} (h : IApp g2 B w0 pre A) (hb : Below A.heap.size A A') : IApp g2 B w0 pre A' := by
  obtain ⟨ad, c, h1, h2, h3, h4⟩ := h
  exact ⟨ad, c, (hb.block _ (lt_of_block h1)).trans h1, own_keep h2 hb, h3.trans (hb.mono h3.size), Nat.le_trans h4 hb.size⟩
theorem appendSeq_any (p q B : Nat) (kb : List UInt8) (room cnt : Nat) (S : List Slt) (w : World) (ht : Tb w p q kb room cnt S) (hBB : w.heap[B]? = some (.cells #[.pointer (some ⟨p, 0, none⟩)] 30 (0, 0))) :
    Calls Try.prog 63 #[.slice none 0 0, .func (.func 52) #[] #[.pointer (some ⟨B, 0, none⟩)]] w fun e w' => ∃ ad c, e = .returned (.slice ad (flowsS S).length c) ∧ w'.ownsRow w.heap.size 28 41 (.slice ad (flowsS S).length c) (flowsS S).length (flosC (flowsS S)) ∧ Below w.heap.size w w' := by
  have HB := Lib.hid (Below.refl w.heap.size w)
  have HT := Lib.hid ht
  have HBB := Lib.hid hBB
  have hN1 : S.length ≤ 8192 := ht.hn
  clear ht hBB
  refine (callsIn_wide (n := 8)).1 (callsIn_of_wp_marks Try.func63 rfl trivial (wpIn_wide.2 ?_) rfl)
  simp only [Try.ntmps63, List.size_toArray, List.length_cons, List.length_nil, Nat.reduceAdd, Nat.reduceSub, Array.replicate_succ, Array.replicate_zero, List.push_toArray, List.append_toArray, List.nil_append, List.cons_append]
  go_wp2_with (first
    | ((with_reducible refine sl 2 ?_); go_must (refine wpL_boxG rfl 38 (.tmp 0) rfl #[.slice none 0 0] rfl ?_); intro w6 g2 he__ le_g2 lt_g2 hg__ hb__; have HG2 := Lib.hid hg__; have hE__ := cU HB bup hb__; replace HB := ck HB hE__; replace HBB := ck HBB hE__; clear hE__; clear hg__ hb__ he__; simp only [PT]))
  refine (wpIn_wide (n := 8)).1 ?_
  have hsz := HB.out.size
  refine wpIn_rangeFunc_all rfl (by omega) (gf := 52) (lb := #[.pointer (some ⟨B, 0, none⟩)]) rfl trivial (enters_of Try.func52 (by kernel_rfl) rfl)
    (all_seq _ (by omega) B p q kb room cnt S w w6 HT.out HB.out HBB.out) (fun h k => h.trans k) (belowK_b hsz) (Below.refl _ _) (fun _ => rfl)
    (fun m A A' k ob st hk hkm _ hA => (st.block k (lt_of_block hA)).trans hA)
    (IApp g2 w6.heap.size w) (ownFrom_app _ _ _ _ hsz) (fun s A A' m hm hi st => hi.below st)
    (ownFrom_pure _ _) ⟨none, 0, HG2.out, World.ownsRow_nil _ _ _ _, HB.out, Nat.le_refl _⟩
    (AxF (fun x => x ∈ flowsS S) fun x b5 => #[.slice none 0 0, .func (.func 52) #[] #[.pointer (some ⟨B, 0, none⟩)], .pointer (some ⟨g2, 0, none⟩), undef, .slice none 0 0, .pointer (some ⟨b5, 0, none⟩), .func (.func 52) #[] #[.pointer (some ⟨B, 0, none⟩)], .agg x.v.cells.toArray, undef, undef, undef, undef, undef]) (fun x a' => ownFrom_axF _ _ _ _ _) ?assign ?body ?done
  case assign =>
    intro l pre x W K hI hP hK
    simp only [encF, fold1]
    simp only [PT]
    have hF : ∀ f, (Fence.wide.inRound l).fn f := fun _ => trivial
    have HII := Lib.hid hI
    have HK := Lib.hid hK
    have HE := Lib.hid (Below.refl W.heap.size W)
    have hszW : w.heap.size ≤ W.heap.size := by obtain ⟨_, _, _, _, h3, _⟩ := hI; exact h3.size
    have HIX : Hid ((Try.prog.info? 28).map (fun i => (i.zero, i.size)) = some (some (.agg zeroF.cells.toArray), x.v.cells.toArray.size)) := Lib.hid (by rw [List.size_toArray, Flo.length x.ok]; exact flo_info)
    clear hI hK
    gi_wp2_with (first
      | ((with_reducible refine slI 5 ?_); go_must (refine wpLI_newN hF rfl rfl 28 rfl (.tmp 5) (.tmp 7) rfl x.v.cells.toArray _ HIX.out (by rw [List.size_toArray, List.size_toArray, Flo.length x.ok, Flo.length zeroF_ok]) (flo_one _) (fun _ => rfl) (fun _ => rfl) ?_); intro w7 g5 le_g5 lt_g5 hg__ hb__; have HG5 := Lib.hid hg__; replace HE := ck HE hb__; clear hg__ hb__; simp only [PT]))
    exact HK.out _ _ (KeepsFrom.below HE.out) (HE.out.mono hszW) (HII.out.below HE.out) ⟨hP, g5, by simp, HG5.out⟩
  case body =>
    rintro l pre x a' W hl ⟨ad', c', h1, h2, h3, h4⟩ ⟨hP, b5, rfl, h5⟩ hlt
    have hF : ∀ f, (Fence.wide.inRound l).fn f := fun _ => trivial
    have hszW := h3.size
    have H5 := Lib.hid h5
    have H1 := Lib.hid h1
    have H2 := Lib.hid h2
    have H3 := Lib.hid h3
    have HE := Lib.hid (Below.refl W.heap.size W)
    have HIX : Hid ((Try.prog.info? 28).map (·.size) = some x.v.cells.length) := Lib.hid (by rw [Flo.length x.ok]; exact flo_size)
    clear hP h1 h2 h3 h5
    gi_wp2_with (first
      | ((with_reducible refine slI 8 ?_); go_must (refine wpLI_loadF hF rfl 38 (.tmp 2) rfl g2 0 rfl (.slice ad' pre.length c') H1.out rfl Try.underlying38 rfl ?_); simp only [PT])
      | ((with_reducible refine slI 9 ?_); go_must (refine wpLI_load hF rfl 28 (.tmp 5) rfl b5 0 rfl x.v.cells _ (range_block H5.out) Try.underlying28 rfl HIX.out ?_); simp only [PT])
      | ((with_reducible refine slI 10 ?_); go_must (refine wpLI_lit1 hF rfl 38 28 (.tmp 9) rfl x.v.cells.toArray _ rfl 41 Try.underlying38 flo_info (by omega) (by omega) (fill_flow x) ?_); intro w11 gL le_gL lt_gL hg__ hb__; have HL := Lib.hid hg__; replace HE := ck HE hb__; clear hg__ hb__; simp only [PT])
      | ((with_reducible refine slI 11 ?_); go_must (refine wpLI_append hF elFl rfl (.tmp 8) (.tmp 10) rfl w6.heap.size rfl (own_keep H2.out HE.out) rfl (by have h := sl_block (cs := x.v.cells) HL.out; rwa [FloW.length] at h) Flo.one (by unfold maxLen; omega) (by omega) (Nat.le_trans h4 HE.out.size) ?_); intro ad10 c10 w10 ho10 hg10__; have HO2 := own_keep H2.out HE.out; have HQ2 := Lib.hid ((KeepsFrom.below (n₀ := w6.heap.size) HE.out).trans (KeepsFrom.own HO2 hg10__)); have HKb := Lib.hid ((HE.out.mono hszW).grown hg10__ (Nat.le_trans hszW HE.out.size) (fun k e => Nat.le_trans hsz (ownBlock_ge HO2 k e))); have HO := Lib.hid ho10; go_must (have H1n := Lib.hid ((hg10__.block g2 (lt_of_block (hat HE H1)) (fun e => (by have := ownBlock_ge HO2 g2 e.symm; omega))).trans (hat HE H1))); go_must (have H3n := Lib.hid ((H3.out.trans (HE.out.mono hszW)).grown hg10__ (Nat.le_trans hszW HE.out.size) (fun k e => Nat.le_trans hsz (ownBlock_ge HO2 k e)))); have H4n := Lib.hid (Nat.le_trans h4 (Nat.le_trans HE.out.size hg10__.size)); clear ho10 hg10__ HO2; simp only [PT])
      | ((with_reducible show wpListIn _ _ _ _ _ (⟨none, .store _ (.tmp 2) _, _, _, _, _⟩ :: _) _ _); go_must (refine wpLI_storeF hF rfl 38 (.tmp 2) (.tmp 11) rfl g2 0 (.slice ad10 (pre.length + 1) c10) rfl rfl rfl H1n.out (show (0 : Nat) < 1 by decide) (by kernel_rfl) #[.slice ad10 (pre.length + 1) c10] rfl ?_); intro w12 hs__ hr__; have HQ3 := Lib.hid (HQ2.out.trans (KeepsFrom.write hr__ H1n.out)); have HKc := Lib.hid (HKb.out.grown hr__ (Nat.le_trans hszW HKb.out.size) (fun k e => by cases e; exact le_g2)); have H3m := Lib.hid (H3n.out.grown hr__ H3n.out.size (fun k e => by cases e; exact le_g2)); have HOm := Lib.hid (own_write HO.out hr__ H1n.out (by decide)); have H4m := Lib.hid (Nat.le_trans H4n.out hr__.size); have HS := Lib.hid hs__; clear hs__ hr__; simp only [PT]))
    exact ⟨HQ3.out, HKc.out, ad10, c10, by rw [List.length_append]; exact HS.out, by rw [List.length_append, flosC_snoc]; exact HOm.out, H3m.out, H4m.out⟩
  case done =>
    rintro D xs W hD rfl ⟨ad', c', h1, h2, h3, h4⟩ hK
    have H1 := Lib.hid h1
    have H2 := Lib.hid h2
    have H3 := Lib.hid h3
    have HKD := Lib.hid hK
    have HD : Hid _ := Lib.hid hD
    clear h1 h2 h3 hK hD
    go_wp2_with (first
      | ((with_reducible refine sl 12 ?_); go_must (refine wpL_loadF rfl 38 (.tmp 2) rfl g2 0 rfl (.slice ad' (flowsS S).length c') H1.out rfl Try.underlying38 rfl ?_); simp only [PT]))
    refine ⟨by simp, .inl ⟨_, _, rfl, run_takeDeferred HKD.out, ?_⟩⟩
    refine ⟨_, results_tmp rfl _ _ _, ad', c', rfl, ?_, H3.out.trans (belowK_b (w := w) (Nat.le_refl _) W D _ _ (by have := HD.out; omega) HKD.out rfl rfl)⟩
    exact own_base (own_grown H2.out (grownBy_putObj' W D _) (fun r e => by cases e; exact ⟨_, HKD.out, rfl⟩)) hsz
theorem collect_any (p q B : Nat) (kb : List UInt8) (room cnt : Nat) (S : List Slt) (w : World) (ht : Tb w p q kb room cnt S) (hBB : w.heap[B]? = some (.cells #[.pointer (some ⟨p, 0, none⟩)] 30 (0, 0))) :
    Calls Try.prog 51 #[.func (.func 52) #[] #[.pointer (some ⟨B, 0, none⟩)]] w fun e w' => ∃ ad c, e = .returned (.slice ad (flowsS S).length c) ∧ w'.ownsRow w.heap.size 28 41 (.slice ad (flowsS S).length c) (flowsS S).length (flosC (flowsS S)) ∧ Below w.heap.size w w' := by
  have HT := Lib.hid ht
  have HBB := Lib.hid hBB
  clear ht hBB
  go_enter Try.func51, Try.ntmps51
  go_wp2_with (go_at_call 63; go_must (refine (appendSeq_any p q B kb room cnt S _ HT.out HBB.out).mono ?_); rintro e w2 ⟨ad, c, rfl, ho, hb⟩; have HO := Lib.hid ho; have HB := Lib.hid hb; clear ho hb)
  go_ret
  exact ⟨ad, c, rfl, HO.out, HB.out⟩
end Go.Proofs.Ytgpdlhbndoeldaa
/-
  The tape's count never falls: of whatever program, machine and step. (For a 'cmp' of slices.SortFunc that lays blocks: what is known of it as 'Below' is so 'some draws, some blocks'.)
-/
namespace Go.Proofs.Ytgpdlhbndoeldaa
open Go.RowKit Go.Sort
set_option linter.unusedVariables false
set_option linter.unusedSimpArgs false

theorem ask_drawn {α : Type} : ∀ (q : Ask α) (w : World), w.drawn ≤ (w.ask q).2.drawn
  | .done a, w => Nat.le_refl _
  | .ask what range k, w => by
    unfold World.ask
    dsimp only
    split
    · exact ask_drawn _ _
    · exact Nat.le_trans (Nat.le_succ _) (ask_drawn _ { w with drawn := w.drawn + 1 })
theorem sys_drawn (w : World) (c : Sys) : w.drawn ≤ (w.sys c).2.drawn := by
  have h := ask_drawn (Kernel.perform c w.os) w
  unfold World.sys
  generalize w.ask (Kernel.perform c w.os) = r at h
  obtain ⟨⟨a, os⟩, w'⟩ := r
  cases a <;> simp_all
theorem viewStore_drawn {p : Program} {w : World} {at_ : Addr} {u : TypeId} {k : Addr} {v : Value} {b : Bool} {r : World × List Addr} (h : w.viewStore p at_ u k v b = .ok r) : r.1.drawn = w.drawn := by
  unfold World.viewStore at h
  simp only [bind, Except.bind, pure, Except.pure] at h
  repeat' first
    | (cases h; done)
    | (cases h; rfl)
    | split at h
theorem farStore_drawn {p : Program} {w : World} {a : Addr} {v : Value} {b : Bool} {r : World × List Addr} (h : w.farStore p a v b = .ok r) : r.1.drawn = w.drawn := by
  unfold World.farStore at h
  split at h
  · split at h
    · cases h; exact viewStore_drawn (by assumption)
    · cases h
  · cases h
theorem setCell_drawn (w : World) (a : Addr) (v : Value) : (w.setCell a v).drawn = w.drawn := rfl
theorem freeze_drawn (w : World) (a : Addr) (n : Nat) : (w.freeze a n).drawn = w.drawn := by unfold World.freeze; split <;> rfl
/-- how far the tape is read in the end -/
def upTo {α : Type} : Result α → Nat
  | .ok _ w => w.drawn
  | .halt _ w => w.drawn
theorem run_drawn {α : Type} (p : Program) (s : Sem α) : ∀ w : World, w.drawn ≤ upTo (s.run p w) := by
  induction s with
  | pure a => intro w; exact Nat.le_refl _
  | load m a k ih =>
    intro w
    unfold Sem.run
    split
    · exact ih _ _
    · split
      · exact ih _ _
      · exact Nat.le_refl _
  | store m a v k ih =>
    intro w
    cases v <;> unfold Sem.run <;> (try exact Nat.le_refl _)
    all_goals
      split
      · split
        · exact Nat.le_refl _
        · exact ih (w.setCell a _)
      · split
        · rename_i h; have := farStore_drawn h; simp only at this; rw [← this]; exact ih _
        · exact Nat.le_refl _
  | new o k ih => intro w; exact ih _ { w with heap := w.heap.push o }
  | shape r k ih => intro w; exact ih _ _
  | freeze a n k ih => intro w; unfold Sem.run; rw [← freeze_drawn w a n]; exact ih _
  | frozen a k ih => intro w; exact ih _ _
  | getObj r k ih =>
    intro w
    unfold Sem.run
    split
    · exact Nat.le_refl _
    · exact ih _ _
    · exact Nat.le_refl _
  | setObj r o k ih =>
    intro w
    unfold Sem.run
    split
    · exact Nat.le_refl _
    · exact ih { w with heap := w.heap.setIfInBounds r o }
    · exact Nat.le_refl _
  | choose q k ih =>
    intro w
    unfold Sem.run
    split
    · exact ih _ _
    · exact Nat.le_trans (Nat.le_succ _) (ih _ { w with drawn := w.drawn + 1 })
  | sys c k ih => intro w; unfold Sem.run; exact Nat.le_trans (sys_drawn w c) (ih _ _)
  | program k ih => intro w; exact ih _ _
  | mark m k ih => intro w; exact ih _
  | halt h => intro w; exact Nat.le_refl _
theorem run_ok {α : Type} {p : Program} {s : Sem α} {w w' : World} {a : α} (h : s.run p w = .ok a w') : w.drawn ≤ w'.drawn := by
  have := run_drawn p s w; rw [h] at this; exact this
theorem run_halt {α : Type} {p : Program} {s : Sem α} {w w' : World} {a : Halt} (h : s.run p w = .halt a w') : w.drawn ≤ w'.drawn := by
  have := run_drawn p s w; rw [h] at this; exact this
theorem runT_ok {α : Type} {p : Program} {s : Sem α} {w w' : World} {es es' : Array Event} {a : α} (h : s.runT p w es = (.ok a w', es')) : w.drawn ≤ w'.drawn := by
  have h1 := Sem.runT_fst p s w es; rw [h] at h1; exact run_ok h1.symm
theorem runT_halt {α : Type} {p : Program} {s : Sem α} {w w' : World} {es es' : Array Event} {a : Halt} (h : s.runT p w es = (.halt a w', es')) : w.drawn ≤ w'.drawn := by
  have h1 := Sem.runT_fst p s w es; rw [h] at h1; exact run_halt h1.symm
/-- a step of a goroutine that reads the tape no less far -/
def lowG (d : Nat) : GStep → Prop
  | .go _ w _ => d ≤ w.drawn
  | .comm _ _ _ _ w _ => d ≤ w.drawn
  | .spawn _ _ w _ => d ≤ w.drawn
  | .count _ w _ => d ≤ w.drawn
  | .timer _ _ w _ => d ≤ w.drawn
  | .alone _ _ w _ => d ≤ w.drawn
  | .newcoro _ _ _ w _ => d ≤ w.drawn
  | .coroswitch _ _ _ w _ => d ≤ w.drawn
  | .collect _ w _ => d ≤ w.drawn
  | .watch _ w _ => d ≤ w.drawn
  | .ended _ _ _ => True
theorem lowG_after {d : Nat} {es : Array Event} {s : GStep} (h : lowG d s) : lowG d (GStep.after es s) := by cases s <;> exact h
theorem lowG_le {d d' : Nat} {s : GStep} (h : lowG d' s) (hd : d ≤ d') : lowG d s := by
  cases s <;> first | exact Nat.le_trans hd h | trivial
theorem low_endWith (w : World) (fd : Nat) (t : ByteArray) (o : Outcome) (d : Nat) : lowG d (endWith w fd t o) := by
  unfold endWith
  dsimp only
  repeat' first
    | trivial
    | split
theorem low_dieOf (fr : Frame) (a : List ByteArray) (m : String) (b : Bool) (w : World) : lowG w.drawn (dieOf fr a m b w) := Nat.le_refl _
theorem low_endThrow (fr : Frame) (m : String) (w : World) : lowG w.drawn (endThrow fr m w) := Nat.le_refl _
theorem low_endPrinting (p : Program) (fr : Frame) (v : Value) (w : World) : lowG w.drawn (endPrinting p fr v w) := by
  unfold endPrinting
  dsimp only
  split
  · exact low_endThrow _ _ _
  · trivial
theorem low_endFatal (p : Program) (fr : Frame) (cs : List Frame) (dy : Option Dying) (m : String) (w : World) : lowG w.drawn (endFatal p fr cs dy m w) := by
  unfold endFatal
  dsimp only
  split
  · rename_i h; exact lowG_le (low_dieOf _ _ _ _ _) (run_ok h)
  · trivial
  · trivial
theorem low_writeOn (p : Program) (fr : Frame) (d : Dying) (f : Fatal) (w : World) : lowG w.drawn (writeOn p fr d f w) := by
  unfold writeOn
  dsimp only
  split
  · trivial
  · split
    · rename_i h; exact runT_ok h
    · rename_i h; exact runT_halt h
    · trivial
    · trivial
theorem low_die (p : Program) (fr : Frame) (d : Dying) (w : World) : lowG w.drawn (die p fr d w) := by
  unfold die
  split
  · exact low_writeOn _ _ _ _ _
  · split
    · split
      · exact Nat.le_refl _
      · exact low_endWith _ _ _ _ _
    · dsimp only
      split
      · exact Nat.le_refl _
      · split
        · rename_i h; exact run_ok h
        · trivial
      · refine lowG_after ?_
        split
        · rename_i h; exact run_ok (by first | exact h | (rw [← Sem.runT_fst]; exact h))
        · rename_i h; exact run_ok (by first | exact h | (rw [← Sem.runT_fst]; exact h))
        · trivial
        · rename_i h; exact lowG_le (low_endPrinting _ _ _ _) (run_halt (by first | exact h | (rw [← Sem.runT_fst]; exact h)))
        · trivial
      · trivial
theorem low_doReturn (p : Program) (main : Bool) (fr : Frame) (cs : List Frame) (dy : Option Dying) (v : Value) (w : World) : lowG w.drawn (doReturn p main fr cs dy v w) := by
  unfold doReturn
  dsimp only
  repeat' first
    | trivial
    | exact Nat.le_refl _
    | split
end Go.Proofs.Ytgpdlhbndoeldaa
/-
  The tape's count never falls: the step of a goroutine, of a machine, a call.
-/
namespace Go.Proofs.Ytgpdlhbndoeldaa
open Go.RowKit Go.Sort
set_option linter.unusedVariables false
set_option linter.unusedSimpArgs false
set_option maxHeartbeats 4000000

theorem low_ite {c : Prop} [Decidable c] {a b : GStep} {d : Nat} (h1 : c → lowG d a) (h2 : ¬ c → lowG d b) : lowG d (if c then a else b) := by
  split
  · exact h1 (by assumption)
  · exact h2 (by assumption)
theorem low_callDeferred (p : Program) (fr : Frame) (cs : List Frame) (dy : Option Dying) (d : Deferred) (w : World) : lowG w.drawn (callDeferred p fr cs dy d w) := by
  unfold callDeferred
  refine low_ite (fun _ => trivial) (fun _ => ?_)
  · have hr := run_drawn p (invoke d.target d.args) w
    rw [← Sem.runT_fst p _ w #[]] at hr
    generalize (invoke d.target d.args).runT p w #[] = r at hr ⊢
    obtain ⟨r, es⟩ := r
    dsimp only at hr ⊢
    refine lowG_after ?_
    split
    all_goals first
      | trivial
      | exact hr
      | exact lowG_le (low_endFatal _ _ _ _ _ _) hr
      | exact lowG_le (low_endThrow _ _ _) hr
      | (split <;> exact hr)
theorem low_unwind (p : Program) (main : Bool) (fr : Frame) (cs : List Frame) (dy : Option Dying) (w : World) : lowG w.drawn (unwind p main fr cs dy w) := by
  unfold unwind
  split
  · rename_i block a ds hd
    have hr := run_drawn p (Instr.takeDeferred block) w
    rw [← Sem.runT_fst p _ w #[]] at hr
    generalize (Instr.takeDeferred block).runT p w #[] = r at hr ⊢
    obtain ⟨r, es⟩ := r
    dsimp only at hr ⊢
    refine lowG_after ?_
    split
    · exact hr
    · trivial
  · exact low_callDeferred _ _ _ _ _ _
  · split
    · trivial
    · split
      · trivial
      · split
        · exact Nat.le_refl _
        · split
          · split
            · exact Nat.le_refl _
            · split
              · rename_i h; exact run_ok h
              · trivial
              · trivial
          · split
            · exact low_endPrinting _ _ _ _
            · trivial
    · split
      · exact low_doReturn _ _ _ _ _ _ _
      · rename_i fn _
        have hr := run_drawn p (results fn fr.tmps) w
        rw [← Sem.runT_fst p _ w #[]] at hr
        generalize (results fn fr.tmps).runT p w #[] = r at hr ⊢
        obtain ⟨r, es⟩ := r
        dsimp only at hr ⊢
        refine lowG_after ?_
        split
        · exact lowG_le (low_doReturn _ _ _ _ _ _ _) hr
        · trivial
        · trivial
theorem low_early (p : Program) (fr : Frame) (cs : List Frame) (dy : Option Dying) (g : Nat) (w : World) : lowG w.drawn (early p fr cs dy g w) := by
  unfold early
  dsimp only
  repeat' first
    | trivial
    | exact Nat.le_refl _
    | (have hh := run_ok ‹Sem.run p (choose (Question.early g)) w = _›; exact hh)
    | split
theorem low_apply (p : Program) (b : Bool) (fr : Frame) (cs : List Frame) (dy : Option Dying) (s : Sem Next) (w : World) : lowG w.drawn (stepG.apply p b fr cs dy s w) := by
  unfold stepG.apply
  dsimp only
  have hr : w.drawn ≤ upTo ((if b = true then s.runT p w #[] else (s.run p w, #[])) : Result Next × Array Event).1 := by
    split
    · rw [Sem.runT_fst]; exact run_drawn p s w
    · exact run_drawn p s w
  generalize ((if b = true then s.runT p w #[] else (s.run p w, #[])) : Result Next × Array Event) = r at hr ⊢
  obtain ⟨r, es⟩ := r
  dsimp only at hr ⊢
  refine lowG_after ?_
  split
  all_goals first
    | trivial
    | exact hr
    | exact lowG_le (low_endFatal _ _ _ _ _ _) hr
    | exact lowG_le (low_endThrow _ _ _) hr
    | exact lowG_le (low_early _ _ _ _ _ _) hr
    | exact low_ite (fun _ => lowG_le (low_endThrow _ _ _) hr) (fun _ => hr)
    | (split <;> exact hr)
theorem low_oper (p : Program) (b : Bool) (fr : Frame) (cs : List Frame) (dy : Option Dying) (w : World) : lowG w.drawn (stepG.oper p b fr cs dy w) := by
  unfold stepG.oper
  split
  · trivial
  · split <;> exact low_apply _ _ _ _ _ _ _
theorem low_leave (p : Program) (main : Bool) (fr : Frame) (cs : List Frame) (dy : Option Dying) (l : Nat) (jump : Option Code) (w : World) (why : String) :
    lowG w.drawn (let (r, es) := (Instr.endRound l jump).runT p w #[]
        GStep.after (seen p fr.fn es) <| match r with
        | .ok v w => doReturn p main fr cs dy v w
        | .halt _ w => .ended (.stuck why (fr.pos p)) w) := by
  have hr := run_drawn p (Instr.endRound l jump) w
  rw [← Sem.runT_fst p _ w #[]] at hr
  generalize (Instr.endRound l jump).runT p w #[] = r at hr ⊢
  obtain ⟨r, es⟩ := r
  dsimp only at hr ⊢
  refine lowG_after ?_
  split
  · exact lowG_le (low_doReturn _ _ _ _ _ _ _) hr
  · trivial
theorem low_elim {α : Type} (o : Option α) (s : GStep) (f : α → GStep) (d : Nat) (h : lowG d s) (h2 : ∀ x, lowG d (f x)) : lowG d (o.elim s f) := by cases o <;> first | exact h | exact h2 _
theorem low_exec (p : Program) (main b : Bool) (fr : Frame) (cs : List Frame) (dy : Option Dying) (w : World) : lowG w.drawn (stepG.exec p main b fr cs dy w) := by
  unfold stepG.exec
  dsimp only
  have hl : ∀ (c : Bool) (jump : Option Code), lowG w.drawn (match fr.roundOf with
      | none => if c = true then GStep.go { frame := { fr with mode := .returning }, callers := cs, status := .running, dying := dy } w else GStep.ended (.stuck "exit, goto: no such block or label" (fr.pos p)) w
      | some l =>
        let (r, es) := (Instr.endRound l jump).runT p w #[]
        GStep.after (seen p fr.fn es) <| match r with
        | .ok v w => doReturn p main fr cs dy v w
        | .halt _ w => .ended (.stuck "range over a function: no such loop" (fr.pos p)) w) := by
    intro c jump
    split
    · exact low_ite (fun _ => Nat.le_refl _) (fun _ => trivial)
    · exact low_leave _ _ _ _ _ _ _ _ _
  split
  all_goals first
    | trivial
    | exact Nat.le_refl _
    | exact hl _ _
    | exact low_apply _ _ _ _ _ _ _
    | exact low_elim _ _ _ _ (hl _ _) (fun _ => Nat.le_refl _)
    | exact low_elim _ _ _ _ trivial (fun _ => low_apply _ _ _ _ _ _ _)
    | (split <;> first | trivial | exact Nat.le_refl _ | exact low_oper _ _ _ _ _ _ | (split <;> first | trivial | (rename_i h; exact run_ok h)))
    | (rename_i l k h
       have hr := run_drawn p (Instr.endLoop l) w
       rw [← Sem.runT_fst p _ w #[]] at hr
       generalize (Instr.endLoop l).runT p w #[] = r at hr ⊢
       obtain ⟨r, es⟩ := r
       dsimp only at hr ⊢
       refine lowG_after ?_
       split
       · exact hr
       · exact hr
       · trivial)
    | (rename_i f params assign body k h
       have hr := run_drawn p (Instr.enterLoop fr.fn fr.tmps params assign body fr.roundOf) w
       rw [← Sem.runT_fst p _ w #[]] at hr
       generalize (Instr.enterLoop fr.fn fr.tmps params assign body fr.roundOf).runT p w #[] = r at hr ⊢
       obtain ⟨r, es⟩ := r
       dsimp only at hr ⊢
       refine lowG_after ?_
       split
       · exact lowG_le (low_apply _ _ _ _ _ _ _) hr
       · trivial)
theorem low_stepG (p : Program) (main : Bool) (g : Goroutine) (w : World) (b : Bool) : lowG w.drawn (stepG p main g w b) := by
  obtain ⟨fr, callers, status, dying, offers⟩ := g
  simp only [stepG]
  split
  · exact low_die _ _ _ _
  · exact low_exec _ _ _ _ _ _ _
  · exact low_unwind _ _ _ _ _ _
theorem communicate_drawn (p : Program) (rest : Rest) (gs : Array Goroutine) (i : Nat) (g : Goroutine) (cases : Array CommCase) (blocking : Bool)
    (shape : CommShape) (w : World) (m' : Machine) (h : (communicate p rest gs i g cases blocking shape w).1 = .next m') : w.drawn ≤ m'.world.drawn := by
  have hw : ∀ w', waitingAt rest cases w = some w' → w'.drawn = w.drawn := by
    intro w' h'
    unfold waitingAt at h'
    split at h'
    · split at h'
      · cases h'; rfl
      · cases h'
    · cases h'; rfl
  unfold communicate at h
  simp only [] at h
  repeat' first
    | (simp at h; done)
    | (simp only [Stepped.next.injEq] at h; subst h; first | exact Nat.le_refl _ | exact Nat.le_of_eq (hw _ (by assumption)).symm | (have hh := run_ok ‹Sem.run p _ w = Result.ok _ _›; exact hh) | (have h1 := run_ok ‹Sem.run p _ w = Result.ok _ _›; have h2 := run_ok ‹Sem.run p (choose _) _ = Result.ok _ _›; exact Nat.le_trans h1 h2) | (have h1 := run_ok ‹Sem.run p _ w = Result.ok _ _›; have h2 := run_halt ‹Sem.run p (runtimePanic _) _ = Result.halt _ _›; exact Nat.le_trans h1 h2))
    | split at h
theorem look_drawn (p : Program) (gs : Array Goroutine) (rest : Rest) (w : World) (m' : Machine)
    (h : look p gs rest w = .next m') : w.drawn ≤ m'.world.drawn := by
  unfold look at h
  simp only [] at h
  repeat' first
    | (simp at h; done)
    | (simp only [Stepped.next.injEq] at h; subst h; (have hh := run_ok ‹Sem.run p _ w = Result.ok _ _›; exact hh))
    | split at h
theorem timerOp_drawn (m : Machine) (op : TimerOp) (r : Value × Machine) (h : timerOp m op = .ok r) : m.world.drawn ≤ r.2.world.drawn := by
  have hd : ∀ (w : World) (c : Nat), (drain w c).2.drawn = w.drawn := by
    intro w c
    unfold drain
    split <;> rfl
  have hre : ∀ (m : Machine) (k : Nat) (t : Timer) (a b : Nat), (retime m k t a b).2.world.drawn = m.world.drawn := by
    intro m k t a b
    unfold retime
    cases t.chan with
    | none => rfl
    | some c => exact hd _ _
  have hn : ∀ (m : Machine) (var : Addr) (f : Nat → Timer → Value × Machine) (r : Value × Machine), (∀ k t, (f k t).2.world.drawn = m.world.drawn) → timerOp.named m var f = .ok r → r.2.world.drawn = m.world.drawn := by
    intro m var f r hf h
    unfold timerOp.named at h
    split at h
    · cases h; exact hf _ _
    · cases h
  have ho : ∀ (m m' : Machine) (var : Addr), timerOp.opened m var = some m' → m'.world.drawn = m.world.drawn := by
    intro m m' var h
    unfold timerOp.opened at h
    split at h
    · split at h
      · cases h; rfl
      · cases h
    · cases h; rfl
  cases op with
  | new t =>
    simp only [timerOp] at h
    repeat' first
      | (cases h; done)
      | (cases h; exact Nat.le_refl _)
      | split at h
  | stop var => exact Nat.le_of_eq (hn m var _ r (fun k t => hre m k t 0 t.period) h).symm
  | reset var when period =>
    simp only [timerOp] at h
    split at h
    · rename_i m2 he
      have e := ho _ _ _ he
      exact Nat.le_of_eq (by first | exact ((hn _ var _ r (fun k t => hre m2 k t when period) h).trans e).symm | exact (hn _ var _ r (fun k t => (hre m2 k t when period).trans e) h).symm)
    · cases h
  | deadline ctx read write when =>
    simp only [timerOp] at h
    cases h
    exact Nat.le_refl _
theorem runT_drawn (p : Program) (m m' : Machine) (i : Nat) (b : Bool) (h : (runT p m i b).1 = .next m') : m.world.drawn ≤ m'.world.drawn := by
  simp only [runT] at h
  revert h
  generalize m.gs.swapAt! _ _ = gg
  have hl := low_stepG p (i == 0) gg.1 m.world b
  revert hl
  generalize stepG p _ gg.1 m.world b = s
  intro hl h
  cases s <;> simp only [] at h
  all_goals first
    | (simp at h; done)
    | exact Nat.le_trans hl (communicate_drawn _ _ _ _ _ _ _ _ _ _ h)
    | exact Nat.le_trans hl (look_drawn _ _ _ _ _ h)
    | (simp only [Stepped.next.injEq] at h; subst h; exact hl)
    | (repeat' first
        | (simp at h; done)
        | (simp only [Stepped.next.injEq] at h; subst h; exact hl)
        | (simp only [Stepped.next.injEq] at h; subst h; have ht := timerOp_drawn _ _ _ ‹timerOp _ _ = Except.ok _›; exact Nat.le_trans hl ht)
        | (simp only [Stepped.next.injEq] at h; subst h; have he := ‹endThrow _ _ _ = GStep.go _ _ _›; unfold endThrow dieOf at he; cases he; exact hl)
        | split at h)
theorem serve_drawn (p : Program) (m m' : Machine) (k : Nat) (h : serve p m k = .next m') : m.world.drawn ≤ m'.world.drawn := by
  unfold serve at h
  simp only [] at h
  repeat' first
    | (simp at h; done)
    | (simp only [Stepped.next.injEq] at h; subst h; exact Nat.le_refl _)
    | split at h
def lowM (d : Nat) : Move → Prop
  | .goroutine m _ => d ≤ m.world.drawn
  | .machine (.next m) _ => d ≤ m.world.drawn
  | .machine _ _ => True
theorem low_serve (p : Program) (m : Machine) (k : Nat) (ops : Array MemOp) : lowM m.world.drawn (.machine (serve p m k) ops) := by
  cases h : serve p m k with
  | next m' => exact serve_drawn p m m' k h
  | ended o w => trivial
theorem lowM_le {d d' : Nat} {s : Move} (h : lowM d' s) (hd : d ≤ d') : lowM d s := by
  cases s with
  | goroutine m i => exact Nat.le_trans hd h
  | machine s ops => cases s <;> first | exact Nat.le_trans hd h | trivial
theorem low_askOn (p : Program) (m : Machine) : lowM m.world.drawn (askOn p m) := by
  unfold askOn
  dsimp only
  repeat' first
    | trivial
    | exact Nat.le_refl _
    | (have hh := run_ok ‹Sem.run p _ m.world = Result.ok _ _›; exact lowM_le (low_serve _ _ _ _) hh)
    | (have hh := run_ok ‹Sem.run p _ m.world = Result.ok _ _›; exact hh)
    | split
  all_goals
    try (have i1 := run_ok ‹Sem.run p _ m.world = Result.ok _ _›)
    try (have i2 := run_ok ‹Sem.run p (choose (Question.extern "clock.wait" _)) _ = Result.ok _ _›)
    try (have i3 := run_ok ‹Sem.run p (choose (Question.sched _)) _ = Result.ok _ _›)
    try (have i4 := run_ok ‹Sem.run p (choose (Question.extern "sched.slice" _)) _ = Result.ok _ _›)
    simp only [lowM, Machine.advanceTo] at *
    omega
theorem low_ask (p : Program) (m : Machine) : lowM m.world.drawn (ask p m) := by
  unfold ask
  split
  · cases hr : (choose (.extern "collector.look" 2)).run p m.world with
    | halt h w => trivial
    | ok k world =>
      have h1 := run_ok hr
      rcases k with _ | _ | k
      · exact lowM_le (low_askOn p { m with world }) h1
      · show lowM _ (match look p m.gs m.rest world with | .next m => askOn p m | e => Move.machine e)
        cases hl : look p m.gs m.rest world with
        | next m₂ => exact lowM_le (low_askOn p m₂) (Nat.le_trans h1 (look_drawn _ _ _ _ _ hl))
        | ended o w => trivial
      · exact lowM_le (low_askOn p { m with world }) h1
  · exact low_askOn p m
theorem low_move (p : Program) (m : Machine) : lowM m.world.drawn (move p m) := by
  unfold move
  repeat' first
    | trivial
    | exact Nat.le_refl _
    | exact low_ask p _
    | split
theorem step_drawn (p : Program) (m m' : Machine) (h : step p m = .next m') : m.world.drawn ≤ m'.world.drawn := by
  have hm := low_move p m
  unfold step stepT at h
  generalize move p m = v at h hm
  cases v with
  | goroutine m₁ i => exact Nat.le_trans hm (runT_drawn p m₁ m' i true h)
  | machine s ops =>
    simp only at h
    subst h
    exact hm
theorem steps_drawn {p : Program} {m m' : Machine} (h : Steps p m m') : m.world.drawn ≤ m'.world.drawn := by
  obtain ⟨n, hn⟩ := h
  induction n generalizing m with
  | zero => simp only [runN, Stepped.next.injEq] at hn; subst hn; exact Nat.le_refl _
  | succ n ih =>
    simp only [runN] at hn
    cases hs : step p m with
    | next m₁ => rw [hs] at hn; exact Nat.le_trans (step_drawn p m m₁ hs) (ih hn)
    | ended o w => rw [hs] at hn; cases hn
/-- **WHAT RETURNS HAS READ THE TAPE NO LESS FAR.** -/
theorem calls_drawn {P : Program} {f : FuncId} {args : Array Value} {w : World} {v : Value} {R : World → Prop} (h : Calls P f args w fun e w' => e = .returned v ∧ R w') : Calls P f args w fun e w' => e = .returned v ∧ R w' ∧ w.drawn ≤ w'.drawn := by
  intro cs
  obtain ⟨e, w', fr, ⟨he, hR⟩, hc, hf, hl⟩ := h cs
  subst he
  exact ⟨_, w', fr, ⟨rfl, hR, steps_drawn hc⟩, hc, hf, hl⟩
/-- some draws, some blocks laid -/
theorem grown_of_below {w w' : World} (h : RowKit.Below w.heap.size w w') (hd : w.drawn ≤ w'.drawn) : ∃ q os', w' = grow (w.drewN q) os' := by
  obtain ⟨p, hp⟩ := regrown_of_below h
  refine ⟨w'.drawn - w.drawn, p.os, ?_⟩
  have e1 : w'.drawn = p.d := by rw [hp]; rfl
  have e2 : w.drewN (w'.drawn - w.drawn) = redrawn w p.d := by
    rw [← e1]
    unfold World.drewN redrawn
    congr 1
    omega
  rw [e2, ← hp]
end Go.Proofs.Ytgpdlhbndoeldaa
/-
  Chapter 21: slices.SortFunc of flows.
-/
namespace Go.Proofs.Ytgpdlhbndoeldaa
open Go.Shelf Go.RowKit Go.Lib Go.Sort
set_option linter.unusedVariables false
set_option linter.unusedSimpArgs false
set_option maxRecDepth 100000
set_option maxHeartbeats 8000000
shelf_lay_g SlLaysF0.n6 Slsf 6 at Try 45 as sortFlows

/-- a flow that may be compared -/
structure FloN where
  x : FloW
  no : noOk x.v
instance : Inhabited FloN := ⟨⟨⟨zeroF, zeroF_ok⟩, by show (0 : Int) ≤ 0 ∧ (0 : Int) ≤ 1152921504606846976; omega⟩⟩
def encN (y : FloN) : List Value := y.x.v.cells
def cfN (a b : FloN) : Int := ordF a.x.v b.x.v
theorem ltN (a b : FloN) : ltOf cfN a b = oldF a.x.v b.x.v := ordF_neg _ _
theorem bytes_len (a b : FloW) : a.v.key.bytes.length = b.v.key.bytes.length := by rw [Tup.bytes_length a.ok.1, Tup.bytes_length b.ok.1]
theorem oldF_irr (a : Flo) : oldF a a = false := by unfold oldF; rw [if_neg (by simp)]; exact ltB_irr _
theorem oldF_trans (a b c : FloW) (h : oldF a.v b.v = true) (k : oldF b.v c.v = true) : oldF a.v c.v = true := by
  unfold oldF at *
  by_cases e1 : a.v.no = b.v.no <;> by_cases e2 : b.v.no = c.v.no
  · rw [if_neg (by simpa using e1)] at h
    rw [if_neg (by simpa using e2)] at k
    rw [if_neg (by simp; omega)]
    exact ltB_trans _ _ _ (bytes_len a b) (bytes_len b c) h k
  · rw [if_pos e2] at k
    rw [if_pos (by omega)]
    simp at k ⊢; omega
  · rw [if_pos e1] at h
    rw [if_pos (by omega)]
    simp at h ⊢; omega
  · rw [if_pos e1] at h
    rw [if_pos e2] at k
    simp only [decide_eq_true_eq] at h k
    rw [if_pos (by omega)]
    simp; omega
theorem oldF_asym (a b : FloW) (h : oldF a.v b.v = true) : oldF b.v a.v = false := by
  cases k : oldF b.v a.v with
  | false => rfl
  | true => have := oldF_trans a b a h k; rw [oldF_irr] at this; cases this
/-- neither older: of one number and the same bytes -/
theorem oldF_tri (a b : FloW) (h : oldF a.v b.v = false) (k : oldF b.v a.v = false) : a.v.no = b.v.no ∧ a.v.key.bytes = b.v.key.bytes := by
  unfold oldF at *
  by_cases e1 : a.v.no = b.v.no
  · rw [if_neg (by simpa using e1)] at h
    rw [if_neg (by simpa using e1.symm)] at k
    exact ⟨e1, ltB_tri _ _ (bytes_len a b) h k⟩
  · exfalso
    rw [if_pos e1] at h
    rw [if_pos (Ne.symm e1)] at k
    simp at h k
    omega
theorem swoN : SWO (ltOf cfN) where
  irrefl x := by rw [ltN]; exact oldF_irr _
  trans x y z h k := by rw [ltN] at *; exact oldF_trans _ _ _ h k
  ntrans x y z h k := by
    rw [ltN] at *
    cases hz : oldF x.x.v z.x.v with
    | false => rfl
    | true =>
      exfalso
      cases h2 : oldF y.x.v x.x.v with
      | true => have := oldF_trans _ _ _ h2 hz; rw [this] at k; cases k
      | false =>
        obtain ⟨e1, e2⟩ := oldF_tri _ _ h h2
        have : oldF y.x.v z.x.v = oldF x.x.v z.x.v := by unfold oldF; rw [e1, e2]
        rw [this, hz] at k; cases k
theorem cmpLaysN (blk off size : Nat) (w : World) : CmpLays Try.prog 36 #[] encN 41 cfN blk off size w :=
  fun m os dk hs a b => (calls_drawn (order_any a.x.v b.x.v a.x.ok b.x.ok a.no b.no _)).mono fun e w' ⟨he, hb, hd⟩ => ⟨he, grown_of_below hb hd⟩
theorem isAggF (w : World) : (isAgg 28).run Try.prog w = .ok true w := by
  unfold isAgg
  rw [Sem.run_bind, run_underlying Try.underlying28 w]
  rfl
theorem sizeOfF (w : World) : (Go.sizeOf 28).run Try.prog w = .ok 41 w := by
  have h := flo_size
  cases hi : Try.prog.info? 28 with
  | none => rw [hi] at h; cases h
  | some i =>
    rw [hi] at h
    simp only [Option.map_some, Option.some.injEq] at h
    simp [Go.sizeOf, typeInfo, hi, h]
/-- the cells of a list of such flows -/
def flosN (l : List FloN) : List Value := flosC (l.map FloN.x)
theorem flatK_list (d : Array FloN) : (flatK encN 41 d).toList = flosN d.toList := by
  apply List.ext_getElem?
  intro i
  have hl : (flosN d.toList).length = d.size * 41 := by unfold flosN; rw [flosC_length]; simp
  by_cases h : i < d.size * 41
  · have hj : i % 41 < 41 := Nat.mod_lt _ (by omega)
    have hi : i / 41 < d.size := by omega
    have e := flosC_at (d.toList.map FloN.x) (i / 41) (i % 41) (by simpa using hi) hj
    rw [show i / 41 * 41 + i % 41 = i by omega] at e
    unfold flosN
    rw [e, List.getElem?_eq_getElem (by simpa using h)]
    have g := get_flatK encN 41 d i h
    rw [getElem!_pos (flatK encN 41 d) i (by simpa using h), getElem!_pos d (i / 41) hi] at g
    rw [Array.getElem_toList, g]
    have hc : i % 41 < (encN d[i / 41]).length := by show _ < (d[i / 41].x.v.cells).length; rw [FloW.length]; exact hj
    rw [getElem!_pos (encN d[i / 41]) (i % 41) hc]
    simp only [List.getElem_map, Array.getElem_toList]
    exact (List.getElem?_eq_getElem hc).symm
  · rw [List.getElem?_eq_none (by simp; omega), List.getElem?_eq_none (by rw [hl]; omega)]
theorem holdsN {w : World} {g : Nat} {cur : Array Value} {e : TypeId} {l : List FloN} (h : w.heap[g]? = some (.cells cur e (0, 0))) (ht : cur.toList.take (l.length * 41) = flosN l) : HoldsK encN 41 w g 0 l.toArray := by
  intro j hj
  rw [size_flatK] at hj
  have hj' : j < l.length * 41 := by simpa using hj
  have e : (flatK encN 41 l.toArray).toList[j]? = cur[j]? := by
    rw [flatK_list, ← ht, List.getElem?_take, if_pos hj', Array.getElem?_toList]
  have hlt : j < (flatK encN 41 l.toArray).size := by rw [size_flatK]; exact hj
  rw [Array.getElem?_toList, Array.getElem?_eq_getElem hlt] at e
  refine ⟨?_, by simp [World.frozen?, h]⟩
  rw [getElem!_pos (flatK encN 41 l.toArray) j hlt, Nat.zero_add]
  simp only [World.cell?, h]
  simpa using e.symm
theorem put_size {α : Type} [Inhabited α] (enc : α → Value) (off : Nat) (d : Array α) (c : Array Value) : (putCells enc off d c).size = c.size := by simp [putCells]
theorem put_take (F : Array Value) (c : Array Value) (h : F.size ≤ c.size) : (putCells id 0 F c).toList.take F.size = F.toList := by
  apply List.ext_getElem?
  intro i
  rw [List.getElem?_take]
  by_cases hi : i < F.size
  · rw [if_pos hi, Array.getElem?_toList]
    unfold putCells
    rw [Array.getElem?_mapIdx, Array.getElem?_eq_getElem (by omega : i < c.size), Option.map_some, if_pos ⟨Nat.zero_le _, by omega⟩, Nat.sub_zero, getElem!_pos F i hi]
    rw [Array.getElem?_toList, Array.getElem?_eq_getElem hi]
    rfl
  · rw [if_neg hi, List.getElem?_eq_none (by simpa using hi)]
/-- the world behind the sort -/
theorem sortWorld_own {w : World} {base g n c : Nat} {l l' : List FloN} {m : Nat} {os : Array Obj} (h : w.ownsRow base 28 41 (.slice (some ⟨g, 0, none⟩) n c) n (flosN l)) (hn : l.length = n) (hl : l'.length = n) :
    (sortWorldK encN 41 w g 0 m l'.toArray os).ownsRow base 28 41 (.slice (some ⟨g, 0, none⟩) n c) n (flosN l') ∧ w.grownBy (sortWorldK encN 41 w g 0 m l'.toArray os) (some g) := by
  obtain ⟨h1, h2⟩ := h
  rcases h2 with ⟨h2, _⟩ | ⟨g', cap, cur, hv, hb, hg, hnc, hcm, hcs, ht⟩
  · cases h2
  · cases hv
    have lt := lt_of_block hg
    have hF : (flatK encN 41 l'.toArray).size = n * 41 := by rw [size_flatK]; simp [hl]
    have hle : (flatK encN 41 l'.toArray).size ≤ cur.size := by rw [hF, hcs]; exact Nat.mul_le_mul_right _ hnc
    have hblk : (sortWorldK encN 41 w g 0 m l'.toArray os).heap[g]? = some (.cells (putCells id 0 (flatK encN 41 l'.toArray) cur) 28 (0, 0)) := by
      have e : (putRowK encN 41 (Sort.ahead w m) g 0 l'.toArray).heap[g]? = some (.cells (putCells id 0 (flatK encN 41 l'.toArray) cur) 28 (0, 0)) := by
        show ((w.heap.modify g (onCells (putCells id 0 (flatK encN 41 l'.toArray))))[g]?) = _
        rw [Array.getElem?_modify, if_pos rfl, hg]
        rfl
      show ((putRowK encN 41 (Sort.ahead w m) g 0 l'.toArray).heap ++ os)[g]? = _
      rw [Array.getElem?_append_left (by have := lt_of_block e; exact this)]
      exact e
    refine ⟨⟨by unfold flosN; rw [flosC_length]; simp [hl], .inr ⟨g, c, _, rfl, hb, hblk, hnc, hcm, by rw [put_size]; exact hcs, ?_⟩⟩, ⟨rfl, rfl, rfl, ?_, ?_⟩⟩
    · have e := put_take _ cur hle
      rw [hF, flatK_list] at e
      exact e
    · show w.heap.size ≤ ((w.heap.modify g _) ++ os).size
      simp
    · intro k hk hne
      show (((w.heap.modify g _) ++ os)[k]?) = _
      rw [Array.getElem?_append_left (by simpa using hk), Array.getElem?_modify, if_neg (fun e => hne (by rw [e]))]
/-- **SORTED** -/
theorem sort_any (base : Nat) (ad : Option Addr) (n c : Nat) (l : List FloN) (hn : l.length = n) (hsz : n ≤ 1000000) (w : World) (h : w.ownsRow base 28 41 (.slice ad n c) n (flosN l)) :
    Calls Try.prog 45 #[.slice ad n c, .func (.func 36) #[] #[]] w fun e w' => e = .returned (.tuple #[]) ∧ ∃ l' : List FloN, l'.Perm l ∧ l'.Pairwise (fun a b => oldF b.x.v a.x.v = false) ∧ w'.ownsRow base 28 41 (.slice ad n c) n (flosN l') ∧ w.grownBy w' (Value.ownBlock (.slice ad n c)) := by
  have hcase := h
  obtain ⟨h1, h2⟩ := hcase
  rcases h2 with ⟨h2, h0⟩ | ⟨g, cap, cur, hv, hb, hg, hnc, hcm, hcs, ht⟩
  · cases h2
    have hc := AnyF.slices_SortFunc_none sortFlows none 0 (.func (.func 36) #[] #[]) w
    refine Calls.mono hc fun e w' ⟨he, hw⟩ => ?_
    subst hw
    exact ⟨he, l, List.Perm.refl _, by cases l with | nil => exact List.Pairwise.nil | cons a b => simp at hn, h, ⟨rfl, rfl, rfl, Nat.le_refl _, fun _ _ _ => rfl⟩⟩
  · simp only [Value.slice.injEq] at hv
    obtain ⟨rfl, -, rfl⟩ := hv
    have eg : ∀ args w, (callFunc 36 args).run Try.prog w = .ok (.enter 36 args) w := enters_of Try.func36 (by kernel_rfl) rfl
    have hc := AnyQ.slices_SortFunc sortFlows 41 isAggF sizeOfF encN (fun y => FloW.length y.x) (fun y v hv => Flo.one v hv) cfN swoN 36 #[] g 0 c l.toArray w eg (cmpLaysN g 0 _ w) (holdsN hg (by rw [hn]; exact ht)) (lt_of_block hg) (by simp; omega)
    simp only [List.size_toArray, hn] at hc
    refine Calls.mono hc fun e w' ⟨he, d', m, os, hp, hs, hw⟩ => ?_
    subst hw
    have hsize : d'.size = n := by have := hp.1; simpa [hn] using this
    have hd' : d' = d'.toList.toArray := by simp
    have hext : ∀ (d : Array FloN), d.size = n → d.extract 0 n = d := fun d hd => by rw [← hd]; simp
    have hperm : d'.toList.Perm l := by
      have := hp.2.2
      rw [hext d' hsize, hext l.toArray (by simpa using hn)] at this
      simpa using this
    have ho := sortWorld_own (l' := d'.toList) (m := m) (os := os) h hn (by simpa using hsize)
    rw [← hd'] at ho
    refine ⟨he, d'.toList, hperm, ?_, ho.1, ho.2⟩
    rw [List.pairwise_iff_getElem]
    intro i j hi hj hij
    have hi' : i < d'.size := by simpa using hi
    have hj' : j < d'.size := by simpa using hj
    have := hs i j (Nat.zero_le _) hij (by rw [← hsize]; exact hj')
    rw [ltN, getElem!_pos d' i hi', getElem!_pos d' j hj'] at this
    simpa using this
end Go.Proofs.Ytgpdlhbndoeldaa
/-
  Chapter 21: List: walked.
-/
namespace Go.Proofs.Ytgpdlhbndoeldaa
open Go.RowKit Go.Sort Go.Shelf
set_option linter.unusedVariables false
set_option linter.unusedSimpArgs false
set_option maxRecDepth 100000
set_option maxHeartbeats 8000000

def toN (l : List FloW) (h : ∀ x ∈ l, noOk x.v) : List FloN := l.attach.map fun x => ⟨x.1, h x.1 x.2⟩
theorem toN_map (l : List FloW) (h : ∀ x ∈ l, noOk x.v) : (toN l h).map FloN.x = l := by
  unfold toN
  rw [List.map_map]
  exact List.attach_map_subtype_val l
/-- what List answers -/
def RetL (S : List Slt) (w : World) (e : Ending) (w' : World) : Prop :=
  ∃ ad c, ∃ l : List FloN, e = .returned (.slice ad l.length c) ∧ (l.map FloN.x).Perm (flowsS S) ∧ l.Pairwise (fun a b => oldF b.x.v a.x.v = false) ∧ w'.ownsRow w.heap.size 28 41 (.slice ad l.length c) l.length (flosN l) ∧ RowKit.Below w.heap.size w w'
theorem sortedFunc_any (p q B : Nat) (kb : List UInt8) (room cnt : Nat) (S : List Slt) (hno : ∀ x ∈ flowsS S, noOk x.v) (w : World) (ht : Tb w p q kb room cnt S) (hBB : w.heap[B]? = some (.cells #[.pointer (some ⟨p, 0, none⟩)] 30 (0, 0))) :
    Calls Try.prog 38 #[.func (.func 52) #[] #[.pointer (some ⟨B, 0, none⟩)], .func (.func 36) #[] #[]] w (RetL S w) := by
  have HT := Lib.hid ht
  have HBB := Lib.hid hBB
  have hlen : (flowsS S).length ≤ 8192 := Nat.le_trans (flowsS_len S) ht.hn
  have HLN := Lib.hid hlen
  have HE : Hid (flosC (flowsS S) = flosN (toN (flowsS S) hno)) := Lib.hid (by unfold flosN; rw [toN_map])
  have HL : Hid ((toN (flowsS S) hno).length = (flowsS S).length) := Lib.hid (by have := congrArg List.length (toN_map (flowsS S) hno); rwa [List.length_map] at this)
  have HM := Lib.hid (toN_map (flowsS S) hno)
  obtain ⟨L, hL⟩ : ∃ L, L = toN (flowsS S) hno := ⟨_, rfl⟩
  rw [← hL] at HE HL HM
  obtain ⟨n, hn⟩ : ∃ n, n = (flowsS S).length := ⟨_, rfl⟩
  have HNN := Lib.hid hn
  clear ht hBB hL hlen hn
  go_enter Try.func38, Try.ntmps38
  go_wp2_with (first
    | (go_at_call 51; go_must (refine (collect_any p q B kb room cnt S _ HT.out HBB.out).mono ?_); rintro e w2 ⟨ad, c, rfl, ho, hb⟩; rw [← HNN.out] at ho ⊢; rw [HE.out] at ho; have HO := Lib.hid ho; have HB := Lib.hid hb; clear ho hb)
    | (go_at_call 45; go_must (refine (sort_any _ ad n c L (by rw [HL.out, HNN.out]) (by rw [HNN.out]; have := HLN.out; omega) _ HO.out).mono ?_); rintro e w3 ⟨rfl, l', hp, hs, ho3, hg3⟩; have HP := Lib.hid hp; have HS := Lib.hid hs; have HO3 := Lib.hid ho3; have HB3 := Lib.hid (HB.out.grown hg3 HB.out.size (ownBlock_ge HO.out)); clear hp hs ho3 hg3))
  go_ret
  have e : l'.length = n := by rw [HP.out.length_eq, HL.out, HNN.out]
  refine ⟨ad, c, l', by rw [e]; rfl, ?_, HS.out, by rw [e]; exact HO3.out, HB3.out⟩
  rw [← HM.out]
  exact HP.out.map _
theorem list_tab (p q : Nat) (kb : List UInt8) (room cnt : Nat) (S : List Slt) (hno : ∀ x ∈ flowsS S, noOk x.v) (w : World) (ht : Tb w p q kb room cnt S) :
    Calls Try.prog 19 #[.pointer (some ⟨p, 0, none⟩)] w (RetL S w) := by
  have HT := Lib.hid ht
  have HB := Lib.hid (RowKit.Below.refl w.heap.size w)
  clear ht
  go_enter Try.func19, Try.ntmps19
  go_wp2_with (first
    | (go_at_call 39; go_must (refine (all_any p _).mono ?_); intro e w6 hr; obtain ⟨B, rfl, hBB, le_B, hb__⟩ := hr; have hE__ := cU HB bup hb__; replace HB := ck HB hE__; replace HT := ck HT hE__; clear hE__; have HBB := Lib.hid hBB; clear hb__ hBB)
    | (go_at_call 38; go_must (refine (sortedFunc_any p q B kb room cnt S hno _ HT.out HBB.out).mono ?_); intro e w7 hr; obtain ⟨ad, c, l, rfl, h1, h2, h3, h4⟩ := hr; have H1 := Lib.hid h1; have H2 := Lib.hid h2; have H3 := Lib.hid (own_base h3 HB.out.size); have hE__ := cU HB bup h4; replace HB := ck HB hE__; clear hE__; clear h1 h2 h3 h4))
  go_ret
  exact ⟨ad, c, l, rfl, H1.out, H2.out, H3.out, HB.out⟩
end Go.Proofs.Ytgpdlhbndoeldaa
/-
  Chapter 21: what Get answers of a good table; Drop: walked.
-/
namespace Go.Proofs.Ytgpdlhbndoeldaa
open Go.RowKit Go.Sort
set_option linter.unusedVariables false
set_option linter.unusedSimpArgs false
set_option maxRecDepth 100000
set_option maxHeartbeats 16000000

theorem Good.known {kb : List UInt8} {S : List Slt} (g : Good kb S) {x : FloW} (h : x ∈ flowsS S) : rightF x.v = true := by
  obtain ⟨j, s, hj, hu, rfl⟩ := mem_flowsS.1 h
  exact g.right j s hj hu
theorem right_known {f : Flo} (h : rightF f = true) : knownT f.key = true := by
  unfold rightF at h
  simp only [Bool.and_eq_true] at h
  exact h.1.1.1.1.1.1.1
theorem right_no {f : Flo} (h : rightF f = true) : noOk f := by
  unfold rightF at h
  simp only [Bool.and_eq_true, decide_eq_true_eq] at h
  exact ⟨h.1.2, h.2⟩
theorem right_size {f : Flo} (h : rightF f = true) : f.name.size ≤ 24 := by
  unfold rightF nameB at h
  simp only [Bool.and_eq_true, decide_eq_true_eq] at h
  exact h.1.1.1.1.1.1.2.2
theorem get_none (p q : Nat) (kb : List UInt8) (room cnt : Nat) (S : List Slt) (k : Tup) (ho : k.ok) (hwf : k.wf) (w : World) (ht : Tb w p q kb room cnt S) (g : Good kb S) (hlt : (flowsS S).length < S.length) (hno : ∀ x ∈ flowsS S, x.v.key ≠ k) :
    Calls Try.prog 20 #[.pointer (some ⟨p, 0, none⟩), .agg k.cells.toArray] w fun e w' => e = .returned (.tuple #[.agg zeroF.cells.toArray, .bool false]) ∧ Below w.heap.size w w' :=
  (get_tab p q kb room cnt S k ho hwf w ht (free_of_len hlt)).mono fun e w' ⟨h, hb⟩ => by
    rcases h with ⟨_, he⟩ | ⟨_, j, hj, hp, he⟩
    · exact ⟨he, hb⟩
    · rcases g.find hp hj with ⟨hu, hk⟩ | ⟨hu, hz, _⟩
      · exact absurd hk (hno _ (mem_flowsS.2 ⟨j, _, List.getElem?_eq_getElem hj, hu, rfl⟩))
      · rw [hu, hz] at he; exact ⟨he, hb⟩
theorem Good.one {kb : List UInt8} {S : List Slt} (g : Good kb S) {f : FloW} (hf : f ∈ flowsS S) {j : Nat} (hp : Probe S f.v.key (homeN kb f.v.key S.length) j) (hj : j < S.length) : S[j] = ⟨true, f⟩ := by
  obtain ⟨i, s, hi, hu, rfl⟩ := mem_flowsS.1 hf
  rcases g.find hp hj with ⟨hu2, hk⟩ | ⟨_, _, hno⟩
  · have hij := g.keys i j s S[j] hi (List.getElem?_eq_getElem hj) hu hu2 hk.symm
    subst hij
    rw [List.getElem?_eq_getElem hj] at hi
    have hs : S[i] = s := Option.some.inj hi
    rw [hs]
    cases s
    simp only at hu
    rw [hu]
  · exact absurd rfl (hno s.f (mem_flowsS.2 ⟨i, s, hi, hu, rfl⟩))
theorem get_some (p q : Nat) (kb : List UInt8) (room cnt : Nat) (S : List Slt) (f : FloW) (w : World) (ht : Tb w p q kb room cnt S) (g : Good kb S) (hlt : (flowsS S).length < S.length) (hf : f ∈ flowsS S) :
    Calls Try.prog 20 #[.pointer (some ⟨p, 0, none⟩), .agg f.v.key.cells.toArray] w fun e w' => e = .returned (.tuple #[.agg f.v.cells.toArray, .bool true]) ∧ Below w.heap.size w w' :=
  (get_tab p q kb room cnt S f.v.key f.ok.1 f.ok.2.1 w ht (free_of_len hlt)).mono fun e w' ⟨h, hb⟩ => by
    rcases h with ⟨hk, _⟩ | ⟨_, j, hj, hp, he⟩
    · rw [right_known (g.known hf)] at hk; cases hk
    · rw [g.one hf hp hj] at he; exact ⟨he, hb⟩
theorem find_some (p q : Nat) (kb : List UInt8) (room cnt : Nat) (S : List Slt) (f : FloW) (w : World) (ht : Tb w p q kb room cnt S) (g : Good kb S) (hlt : (flowsS S).length < S.length) (hf : f ∈ flowsS S) :
    Calls Try.prog 40 #[.pointer (some ⟨p, 0, none⟩), .agg f.v.key.cells.toArray] w fun e w' => ∃ j : Nat, e = .returned (.int .i64 (j : Int)) ∧ S[j]? = some ⟨true, f⟩ ∧ Below w.heap.size w w' :=
  (find_any p q kb room cnt S f.v.key f.ok.1 f.ok.2.1 w ht (free_of_len hlt)).mono fun e w' ⟨j, he, hp, hb⟩ =>
    ⟨j, he, by rw [List.getElem?_eq_getElem hp.lt, g.one hf hp hp.lt], hb⟩
/-- the first free slot behind h0 -/
theorem first_free {S : List Slt} {h0 : Nat} (hh : h0 < S.length) (hu : ∀ s : Slt, S[h0]? = some s → s.used = true) (hfree : ∃ (z : Nat) (s : Slt), S[z]? = some s ∧ s.used = false) :
    ∃ dz, 1 ≤ dz ∧ dz < S.length ∧ (∀ t : Slt, S[(h0 + dz) % S.length]? = some t → t.used = false) ∧ ∀ d, 1 ≤ d → d < dz → ∀ t : Slt, S[(h0 + d) % S.length]? = some t → t.used = true := by
  obtain ⟨z, s, hz, hf⟩ := hfree
  have hzl := lt_of_some hz
  have hex : ∃ d, d < S.length ∧ ∀ t : Slt, S[(h0 + d) % S.length]? = some t → t.used = false := ⟨dist S.length h0 z, dist_lt (by omega), fun t ht => by
    rw [dist_add hh hzl, hz] at ht; cases ht; exact hf⟩
  have key : ∀ m, (∃ d, d < m ∧ d < S.length ∧ ∀ t : Slt, S[(h0 + d) % S.length]? = some t → t.used = false) → ∃ dz, dz < S.length ∧ (∀ t : Slt, S[(h0 + dz) % S.length]? = some t → t.used = false) ∧ ∀ d, d < dz → ∀ t : Slt, S[(h0 + d) % S.length]? = some t → t.used = true := by
    intro m
    induction m with
    | zero => rintro ⟨d, h, _⟩; omega
    | succ m ih =>
      rintro ⟨d, h1, h2, h3⟩
      rcases Classical.em (∃ d', d' < d ∧ ∀ t : Slt, S[(h0 + d') % S.length]? = some t → t.used = false) with ⟨d', h4, h5⟩ | h4
      · exact ih ⟨d', by omega, by omega, h5⟩
      · refine ⟨d, h2, h3, fun d' hd t ht => ?_⟩
        rcases two t.used with h | h
        · exact h
        · exact absurd ⟨d', hd, fun t' ht' => by rw [ht] at ht'; cases ht'; exact h⟩ h4
  obtain ⟨d, h1, h2⟩ := hex
  obtain ⟨dz, a, b, c⟩ := key S.length ⟨d, h1, h1, h2⟩
  refine ⟨dz, ?_, a, b, fun d' _ hd => c d' hd⟩
  rcases Nat.eq_zero_or_pos dz with h | h
  · exfalso
    subst h
    rw [Nat.add_zero, Nat.mod_eq_of_lt hh] at b
    have h5 := b _ (List.getElem?_eq_getElem hh)
    have h6 := hu _ (List.getElem?_eq_getElem hh)
    rw [h5] at h6; cases h6
  · exact h
theorem drop_none (p q : Nat) (kb : List UInt8) (room cnt : Nat) (S : List Slt) (k : Tup) (ho : k.ok) (hwf : k.wf) (w : World) (ht : Tb w p q kb room cnt S) (g : Good kb S) (hlt : (flowsS S).length < S.length) (hno : ∀ x ∈ flowsS S, x.v.key ≠ k) :
    Calls Try.prog 23 #[.pointer (some ⟨p, 0, none⟩), .agg k.cells.toArray] w fun e w' => e = .returned (.bool false) ∧ Below w.heap.size w w' := by
  have HB := Lib.hid (Below.refl w.heap.size w)
  have HT := Lib.hid ht
  have HO := Lib.hid (And.intro ho (And.intro hwf (And.intro g (And.intro hlt hno))))
  have HI1 : Hid ((Try.prog.info? 26).map (·.size) = some k.cells.length) := Lib.hid (by rw [Tup.length ho]; exact tup_size)
  have HIF := Lib.hid flo_info
  clear ht ho hwf g hlt hno
  go_enter Try.func23, Try.ntmps23
  go_wp2_with (first
    | ((with_reducible refine sl 3 ?_); go_must (refine wpL_boxG rfl 26 (.tmp 1) rfl k.cells.toArray rfl ?_); intro w1 g3 he__ le_g3 lt_g3 hg__ hb__; have HG3 := Lib.hid hg__; have hE__ := cU HB bup hb__; replace HB := ck HB hE__; replace HT := ck HT hE__; clear hE__; clear hg__ hb__ he__; simp only [PT])
    | ((with_reducible refine sl 13 ?_); go_must (refine wpL_load rfl 26 (.tmp 3) rfl g3 0 rfl k.cells _ (range_block HG3.out) Try.underlying26 rfl HI1.out ?_); simp only [PT])
    | (go_at_call 20; go_must (refine (get_none p q kb room cnt S k HO.out.1 HO.out.2.1 _ HT.out HO.out.2.2.1 HO.out.2.2.2.1 HO.out.2.2.2.2).mono ?_); rintro e w2 ⟨rfl, hb2⟩; have hE__ := cU HB bup hb2; replace HB := ck HB hE__; replace HT := ck HT hE__; clear hE__; clear hb2)
    | ((with_reducible refine sl 5 ?_); go_must (refine wpL_newAt _ rfl rfl 28 rfl (.tmp 5) (.tmp 15) rfl zeroF.cells.toArray zeroF.cells.toArray (by rw [List.size_toArray, Flo.length zeroF_ok]; exact flo_info) rfl (flo_one _) (fun _ => rfl) (fun _ => rfl) rfl ?_); simp only [PT]))
  go_ret
  exact ⟨rfl, HB.out.trans (Below.mono bup HB.out.size)⟩
end Go.Proofs.Ytgpdlhbndoeldaa
