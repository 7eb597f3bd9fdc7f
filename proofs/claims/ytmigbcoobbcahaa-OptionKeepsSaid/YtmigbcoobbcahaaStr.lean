/-
  Bytes out of a string, and what is appended to them. Over any program.
-/
import Derived.Test.YtmigbcoobbcahaaStep
import Derived.ArgAppend
namespace Go.Proofs.Ytmigbcoobbcahaa
open Go.RowKit Go.Sort
set_option linter.unusedVariables false

/-- block g (B or later) holds the bytes l at its head; c cells of it may be written -/
def Fresh (w : World) (B g n c : Nat) (l : List UInt8) : Prop :=
  ∃ cur e fz, w.heap[g]? = some (.cells cur e fz) ∧ B ≤ g ∧ n = l.length ∧ n ≤ c ∧ c ≤ maxLen ∧ c ≤ cur.size ∧ c ≤ fz.1 ∧ cur.toList.take n = BV l

theorem Fresh.lt {w : World} {B g n c : Nat} {l : List UInt8} (h : Fresh w B g n c l) : g < w.heap.size := by
  obtain ⟨cur, e, fz, hg, _⟩ := h
  exact lt_of_block hg
theorem Fresh.below {w w' : World} {B g n c : Nat} {l : List UInt8} (h : Fresh w B g n c l) (hb : Below w.heap.size w w') : Fresh w' B g n c l := by
  obtain ⟨cur, e, fz, hg, r⟩ := h
  exact ⟨cur, e, fz, (hb.block g (lt_of_block hg)).trans hg, r⟩
theorem Fresh.bs {w : World} {B g n c : Nat} {l : List UInt8} (h : Fresh w B g n c l) : Bs w (some ⟨g, 0, none⟩) n c l := by
  obtain ⟨cur, e, fz, hg, hB, hn, hnc, hcm, hcs, hf, ht⟩ := h
  refine ⟨by rw [BV_length]; omega, hnc, hcm, by simp, fun j u hj => ⟨_, rfl, ?_⟩⟩
  rw [addr_add, Nat.zero_add]
  have hjn : j < n := by have := (List.getElem?_eq_some_iff.1 hj).1; rw [BV_length] at this; omega
  rw [← ht, List.getElem?_take, if_pos hjn] at hj
  simpa [World.cell?, hg] using hj

theorem below_setCells {B b : Nat} (hB : B ≤ b) : ∀ (vs : List Value) (o : Nat) (w : World), Below B w (w.setCells b o vs)
  | [], _, w => Below.refl B w
  | v :: vs, o, w => by
    unfold World.setCells
    exact ((Below.refl B w).setCell (p := ⟨b, o, none⟩) hB v).trans (below_setCells hB vs (o + 1) _)
theorem run_conv {P : Program} {w : World} {src dst e : TypeId} (s : ByteArray) (hs : P.underlying src = some .string) (hd : P.underlying dst = some (.slice e)) (he : P.underlying e = some (.int .u8)) (hsz : s.size ≤ 140737488351232) :
    ∃ c w', (convert src dst (.string s)).run P w = .ok (.slice (some ⟨w.heap.size, 0, none⟩) s.size c) w' ∧ Fresh w' w.heap.size w.heap.size s.size c s.data.toList ∧ Below w.heap.size w w' := by
  refine ⟨grownCap w s.size 0 e, _, run_bytes_of_string w src dst e s hs hd he, ⟨_, _, _, heap_alloc_new w.drew _, Nat.le_refl _, Array.length_toList.symm, ?_, ?_, ?_, ?_, ?_⟩, ?_⟩
  · exact grownCap_ge w s.size 0 e
  · exact grownCap_le_maxLen w s.size 0 e (by unfold maxLen; omega)
  · simp [bytesRow]; omega
  · simp [bytesRow]; omega
  · unfold bytesRow BV
    rw [Array.toList_append, Array.toList_map]
    exact List.take_left' (by rw [List.length_map]; exact Array.length_toList)
  · exact ((Below.refl w.heap.size w).drew).alloc (Nat.le_refl _) _

/-- one byte is appended -/
theorem run_append_fresh {P : Program} {w : World} {t ty e : TypeId} {bytes : Nat} {z : Value} (el : Elem P t e 1 bytes z) {B g n c : Nat} {l : List UInt8} (h : Fresh w B g n c l)
    {ad2 : Option Addr} {m c2 : Nat} {news : List UInt8} (hsl : Bs w ad2 m c2 news) (hm : 0 < m) (h63 : n + m ≤ 140737488351232) (hby : bytes ≤ 1) (hBw : B ≤ w.heap.size) :
    ∃ ad' c' w', (Builtin.append_ #[t, t] ty #[.slice (some ⟨g, 0, none⟩) n c, .slice ad2 m c2]).run P w = .ok (.slice ad' (n + m) c') w' ∧ Bs w' ad' (n + m) c' (l ++ news) ∧ Below B w w' := by
  obtain ⟨i, hi, hz, hsize, hbb⟩ := info_parts el.info
  obtain ⟨cur, e', fz, hg, hB, hn, hnc, hcm, hcs, hf, ht⟩ := h
  have hml := hsl.len
  obtain ⟨b2, o2, rfl, _, hcc⟩ := hsl.at (j := 0) (by omega)
  have hl2 : (BV news).length = m * i.size := by rw [BV_length, hsize]; omega
  have hnews : ∀ j u, (BV news)[j]? = some u → w.cell? ((⟨b2, o2, none⟩ : Addr).add j) = some u := fun j u hj => by
    obtain ⟨y, hy, hc⟩ := hsl.2.2.2.2 j u hj
    cases hy
    exact hc
  by_cases hr : n + m ≤ c
  · have hrun := run_append_room_cells (P := P) w t ty e i el.ht hi g 0 n c ⟨b2, o2, none⟩ m c2 (BV news) hl2 hnews (BV_one _) hr
      (fun j hj => by
        have hjm : j < m := by rw [BV_length] at hj; omega
        rw [hsize]
        have : n + j < cur.size := by omega
        simp [World.cell?, hg, this])
      (fun j hj => by
        have hjm : j < m := by rw [BV_length] at hj; omega
        rw [hsize]
        simp [World.frozen?, hg]
        omega)
    refine ⟨some ⟨g, 0, none⟩, c, _, hrun, ?_, ?_⟩
    · refine ⟨by rw [BV_length, List.length_append]; omega, hr, hcm, by simp, fun j u hj => ⟨_, rfl, ?_⟩⟩
      rw [addr_add, Nat.zero_add, hsize]
      simp only [Nat.zero_add, Nat.mul_one]
      have hjl : j < n + m := by have := (List.getElem?_eq_some_iff.1 hj).1; rw [BV_length, List.length_append] at this; omega
      by_cases hjn : j < n
      · rw [World.cell?_setCells_out g _ n w ⟨g, j, none⟩ (fun _ _ => .inl hjn)]
        rw [BV_append, List.getElem?_append_left (by rw [BV_length]; omega), ← ht, List.getElem?_take, if_pos hjn] at hj
        simpa [World.cell?, hg] using hj
      · have hin := World.cell?_setCells_in g (BV news) n w (fun k hk => by
          have hkm : k < m := by rw [BV_length] at hk; omega
          have : n + k < cur.size := by omega
          simp [World.cell?, hg, this]) (j - n) (by rw [BV_length]; omega)
        rw [show n + (j - n) = j by omega] at hin
        rw [hin, ← hj, BV_append, List.getElem?_append_right (by rw [BV_length]; omega), show j - (BV l).length = j - n by rw [BV_length]; omega, List.getElem?_eq_getElem]
    · exact below_setCells hB _ _ w
  · obtain ⟨v', w', hrun, r1, r2⟩ := run_append_arg_grows (P := P) w t ty e i z 1 bytes el.ht hi hz hsize hbb el.hzs el.hsz ⟨g, 0, none⟩ n c (BV l) (by rw [BV_length]; omega)
      (fun j u hj => by
        have hjn : j < n := by have := (List.getElem?_eq_some_iff.1 hj).1; rw [BV_length] at this; omega
        rw [← ht, List.getElem?_take, if_pos hjn] at hj
        rw [addr_add, Nat.zero_add]
        simpa [World.cell?, hg] using hj) ⟨b2, o2, none⟩ m c2 (BV news) (by rw [BV_length]; omega) hnews (by omega) (by unfold maxLen; omega) (by
          have := Nat.mul_le_mul_left (n + m) hby
          omega)
    obtain ⟨ad', c', rfl, _⟩ := own_forms r1
    refine ⟨ad', c', w', hrun, ?_, ?_⟩
    · have := Sl.of_own r1
      rw [← BV_append] at this
      exact this
    · exact ((Below.refl B w).grown r2 hBw (fun k hk => by cases hk))

/-! ### as steps -/
theorem wpL_conv {P : Program} {w : World} {ops : Array Oper} {rest : List Oper} {o : Oper} {a : Act} {Q : Exit → Act → World → Prop} {src dst e : TypeId} (s : ByteArray) (hs : P.underlying src = some .string) (hd : P.underlying dst = some (.slice e)) (he : P.underlying e = some (.int .u8)) (hsz : s.size ≤ 140737488351232)
    (hg : Region.wanted o (yielded ops a.tmps) = true) (x : Operand) (hop : o.op = Op.convert src dst x) (hx : a.eval x = .string s)
    (h : ∀ c w', Fresh w' w.heap.size w.heap.size s.size c s.data.toList → Below w.heap.size w w' → wpList P ops Q rest (a.put o.dst (.slice (some ⟨w.heap.size, 0, none⟩) s.size c)) w') : wpList P ops Q (o :: rest) a w := by
  obtain ⟨c, w', hr, h1, h2⟩ := run_conv (P := P) (w := w) s hs hd he hsz
  refine wpL_run hg ?_ (h c w' h1 h2)
  simp only [execOp, hop, hx, Sem.run_bind, hr, Result.andThen_ok, Sem.run_pure]
theorem step_conv {P : Program} {w : World} {ops : Array Oper} {o : Oper} {a : Act} {K : Act → World → Prop} {Q : Exit → Act → World → Prop} {E : Prop} {src dst e : TypeId} (s : ByteArray) (hs : P.underlying src = some .string) (hd : P.underlying dst = some (.slice e)) (he : P.underlying e = some (.int .u8)) (hsz : s.size ≤ 140737488351232)
    (hg : Region.wanted o (yielded ops a.tmps) = true) (x : Operand) (hop : o.op = Op.convert src dst x) (hx : a.eval x = .string s)
    (h : ∀ c w', Fresh w' w.heap.size w.heap.size s.size c s.data.toList → Below w.heap.size w w' → K (a.put o.dst (.slice (some ⟨w.heap.size, 0, none⟩) s.size c)) w') : if Region.wanted o (yielded ops a.tmps) = true then Oper.wp P o a w K Q else E := by
  obtain ⟨c, w', hr, h1, h2⟩ := run_conv (P := P) (w := w) s hs hd he hsz
  refine step_run hg ?_ (h c w' h1 h2)
  simp only [execOp, hop, hx, Sem.run_bind, hr, Result.andThen_ok, Sem.run_pure]
theorem step_append_fresh {P : Program} {w : World} {ops : Array Oper} {o : Oper} {a : Act} {K : Act → World → Prop} {Q : Exit → Act → World → Prop} {E : Prop} {t e : TypeId} {bytes : Nat} {z : Value} (el : Elem P t e 1 bytes z)
    (hgd : Region.wanted o (yielded ops a.tmps) = true) (s x : Operand) (ho : o.op = .call { callee := .builtin .append, args := #[s, x], argTypes := #[t, t] })
    {B g n c : Nat} {l : List UInt8} (hs : a.eval s = .slice (some ⟨g, 0, none⟩) n c) (hf : Fresh w B g n c l) {ad2 : Option Addr} {m c2 : Nat} {news : List UInt8} (hx : a.eval x = .slice ad2 m c2) (hsl : Bs w ad2 m c2 news) (hm : 0 < m) (h63 : n + m ≤ 140737488351232) (hby : bytes ≤ 1) (hBw : B ≤ w.heap.size)
    (h : ∀ ad' c' w', Bs w' ad' (n + m) c' (l ++ news) → Below B w w' → K (a.put o.dst (.slice ad' (n + m) c')) w') :
    if Region.wanted o (yielded ops a.tmps) = true then Oper.wp P o a w K Q else E := by
  obtain ⟨ad', c', w', hr, h2, h3⟩ := run_append_fresh (P := P) (ty := o.type) el hf hsl hm h63 hby hBw
  refine step_run hgd (v := .slice ad' (n + m) c') (w' := w') ?_ (h ad' c' w' h2 h3)
  unfold execOp
  simp only [ho, resolve, invoke, builtin, Sem.run_bind, Sem.run_pure, Result.andThen_ok, List.map_toArray, List.map_cons, List.map_nil, hs, hx, hr]
end Go.Proofs.Ytmigbcoobbcahaa
