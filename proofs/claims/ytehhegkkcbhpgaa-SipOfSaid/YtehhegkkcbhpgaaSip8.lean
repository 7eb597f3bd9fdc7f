/-
  Tuples: their hash; the document's bytes of a tuple; which tuples may be.
-/
import Derived.Test.YtehhegkkcbhpgaaSip7
namespace Go.Proofs.Ytehhegkkcbhpgaa
open Go.RowKit Go.Sort
set_option linter.unusedVariables false

theorem range_block {w : World} {b : Nat} {cs : List Value} {ty : TypeId} {fz : Nat × Nat} (h : w.heap[b]? = some (.cells cs.toArray ty fz)) : w.rangeAt b 0 cs :=
  fun j v hv => by rw [Nat.zero_add, cells_get h, hv]

set_option maxHeartbeats 1000000 in
theorem hash_any (kb : List UInt8) (hkb : kb.length = 16) (t : Tup) (ho : t.ok) (w : World) :
    Calls Try.prog 15 #[.agg (BV kb).toArray, .agg t.cells.toArray] w fun e w' => e = .returned (.int .u64 (sipN kb t.bytes)) ∧ Below w.heap.size w w' := by
  have u1 := Try.underlying22
  have i1 : (Try.prog.info? 22).map (·.size) = some (BV kb).length := by rw [BV_length, hkb]; kernel_rfl
  have i2 : (Try.prog.info? 34).map (·.size) = some t.cells.length := by rw [Tup.length ho]; kernel_rfl
  obtain ⟨w1, hw1⟩ : ∃ w1, w1 = (w.alloc (.cells (BV kb).toArray 22)).alloc (.cells t.cells.toArray 34) := ⟨_, rfl⟩
  have hB : Below w.heap.size w w1 := by rw [hw1]; exact (by repeat (first | exact Below.refl _ _ | refine Below.drew ?_ | refine Below.alloc ?_ (by first | exact Nat.le_refl _ | (simp; done) | (simp; omega)) _))
  have hs1 : w1.heap.size = w.heap.size + 1 + 1 := by rw [hw1]; simp
  have hr1 : w1.rangeAt w.heap.size 0 (BV kb) := range_block (ty := 22) (fz := (0, 0)) (by rw [hw1]; exact heap_alloc2_old _ _ _)
  have hr2 : w1.rangeAt (w.heap.size + 1) 0 t.cells := range_block (ty := 34) (fz := (0, 0)) (by rw [hw1]; exact heap_alloc2_new _ _ _)
  have HB := Lib.hid hB
  have HR1 := Lib.hid hr1
  have HR2 := Lib.hid hr2
  have HS1 := Lib.hid hs1
  have HI1 := Lib.hid i1
  have HI2 := Lib.hid i2
  have HSZ : Hid (t.bytes.length = 38) := Lib.hid (by have := ho.1; have := ho.2; simp [Tup.bytes, be16, putL_length, sizeOf8]; omega)
  have HW1 := Lib.hid hw1
  clear hB hr1 hr2 hs1 i1 i2 hw1
  go_enter Try.func15, Try.ntmps15
  go_wp2_with fail
  rw [← HW1.out]
  have HB1 := Lib.hid ((Below.refl w1.heap.size w1).drew)
  have i1 := HI1.out
  refine wp_region_held_drew (S := fun v => v.rangeAt w.heap.size 0 (BV kb) ∧ v.rangeAt (w.heap.size + 1) 0 t.cells) (by kernel_rfl) ?_ (fun hHeld => ?_)
  focus (have hz := HS1.out; exact ⟨range_below HR1.out (by omega) (HB1.out.trans (Below.mono (by repeat (first | exact Below.refl _ _ | refine Below.drew ?_ | refine Below.alloc ?_ (by first | exact Nat.le_refl _ | (simp; done) | (simp; omega)) _)) HB1.out.size)), range_below HR2.out (by omega) (HB1.out.trans (Below.mono (by repeat (first | exact Below.refl _ _ | refine Below.drew ?_ | refine Below.alloc ?_ (by first | exact Nat.le_refl _ | (simp; done) | (simp; omega)) _)) HB1.out.size))⟩)
  refine' wpAnyH_take (i := 0) (oi := { dst := some 5, op := Op.load 22 (Operand.tmp 2), type := 22, pos := "sip.go:80", after := #[], guard := none }) (v := _) rfl (by kernel_rfl) (by kernel_rfl) (by kernel_rfl) (fun _ _ _ h => h) (yieldsIf_load_mid (by rfl) _ _ rfl _ _ rfl (BV kb) _ (fun v hv => hv.1) (Try.underlying22) rfl (HI1.out)) hHeld ?_
  simp only [Act.put, List.setIfInBounds_toArray, List.set_cons_zero, List.set_cons_succ]
  refine' wpAnyH_take (i := 1) (oi := { dst := some 6, op := Op.load 34 (Operand.tmp 3), type := 34, pos := "sip.go:80", after := #[], guard := none }) (v := _) rfl (by kernel_rfl) (by kernel_rfl) (by kernel_rfl) (fun _ _ _ h => h) (yieldsIf_load_mid (by rfl) _ _ rfl _ _ rfl (t.cells) _ (fun v hv => hv.2) (Try.underlying34) rfl (HI2.out)) hHeld ?_
  simp only [Act.put, List.setIfInBounds_toArray, List.set_cons_zero, List.set_cons_succ]
  refine wpAnyH_ready (rs := [2]) (by kernel_rfl) (by simp) ?_
  refine (AllReadyH.cons (o := { dst := some 7, op := Op.call { callee := Callee.value (Operand.func 12), args := #[Operand.tmp 6], argTypes := #[34] }, type := 23, pos := "sip.go:80", after := #[{ on := 1, ground := Ground.data }], guard := none }) rfl (fun K hK => ?_) AllReadyH.nil)
  (go_simp; go_must (refine (bytes_any t ho _).mono ?_); intro e w2 hr2; unfold RetB at hr2; obtain ⟨ad2, c2, rfl, ho2, hb2⟩ := hr2; (first | (have HB1' := cB HB1 (by repeat (first | exact Below.refl _ _ | refine Below.drew ?_ | refine Below.alloc ?_ (by first | exact Nat.le_refl _ | (simp; done) | (simp; omega)) _)) hb2; clear HB1; have HB1 := HB1'; clear HB1') | (have HB1' := cO HB1 (by repeat (first | exact Below.refl _ _ | refine Below.drew ?_ | refine Below.alloc ?_ (by first | exact Nat.le_refl _ | (simp; done) | (simp; omega)) _)) hb2; clear HB1; have HB1 := HB1'; clear HB1') | (have HB1' := cK HB1 (by repeat (first | exact Below.refl _ _ | refine Below.drew ?_ | refine Below.alloc ?_ (by first | exact Nat.le_refl _ | (simp; done) | (simp; omega)) _)) hb2; clear HB1; have HB1 := HB1'; clear HB1')); have H2 := Lib.hid ho2; clear hb2 ho2; go_wp2_with fail)
  refine hK.out _ _ ?_ (fun hHeld => ?_)
  focus (have hz := HS1.out; exact ⟨range_below HR1.out (by omega) (HB1.out.trans (Below.mono (by repeat (first | exact Below.refl _ _ | refine Below.drew ?_ | refine Below.alloc ?_ (by first | exact Nat.le_refl _ | (simp; done) | (simp; omega)) _)) HB1.out.size)), range_below HR2.out (by omega) (HB1.out.trans (Below.mono (by repeat (first | exact Below.refl _ _ | refine Below.drew ?_ | refine Below.alloc ?_ (by first | exact Nat.le_refl _ | (simp; done) | (simp; omega)) _)) HB1.out.size))⟩)
  clear hK K
  try simp only [Act.put, List.setIfInBounds_toArray, List.set_cons_zero, List.set_cons_succ]
  refine wpAnyH_ready (rs := [3]) (by kernel_rfl) (by simp) ?_
  refine (AllReadyH.cons (o := { dst := some 8, op := Op.buildSlice 42 1 #[(0, Operand.tmp 7)], type := 42, pos := "sip.go:80", after := #[{ on := 2, ground := Ground.data }], guard := none }) rfl (fun K hK => ?_) AllReadyH.nil)
  (go_simp)
  refine hK.out _ _ ?_ (fun hHeld => ?_)
  focus (have hz := HS1.out; exact ⟨range_below HR1.out (by omega) (HB1.out.trans (Below.mono (by repeat (first | exact Below.refl _ _ | refine Below.drew ?_ | refine Below.alloc ?_ (by first | exact Nat.le_refl _ | (simp; done) | (simp; omega)) _)) HB1.out.size)), range_below HR2.out (by omega) (HB1.out.trans (Below.mono (by repeat (first | exact Below.refl _ _ | refine Below.drew ?_ | refine Below.alloc ?_ (by first | exact Nat.le_refl _ | (simp; done) | (simp; omega)) _)) HB1.out.size))⟩)
  clear hK K
  try simp only [Act.put, List.setIfInBounds_toArray, List.set_cons_zero, List.set_cons_succ]
  refine wpAnyH_ready (rs := [4]) (by kernel_rfl) (by simp) ?_
  refine (AllReadyH.cons (o := { dst := some 9, op := Op.call { callee := Callee.value (Operand.func 9), args := #[Operand.tmp 5, Operand.tmp 8], argTypes := #[22, 42] }, type := 25, pos := "sip.go:80", after := #[{ on := 0, ground := Ground.data }, { on := 3, ground := Ground.data }, { on := 2, ground := Ground.chain }], guard := none }) rfl (fun K hK => ?_) AllReadyH.nil)
  (go_simp; go_must (refine (of_any kb hkb _ 1 1 [(ad2, t.bytes.length, c2, t.bytes)] _ (pts_at _ _ rfl (by rfl) rfl (by simp [maxLen]) (by intro p hp; simp only [List.mem_cons, List.not_mem_nil, or_false] at hp; subst hp; exact Bs.of_own H2.out) (Below.refl _ _)) (by have := HSZ.out; simp [flat]; omega)).mono ?_); rintro e w3 ⟨rfl, hb3⟩; (first | (have HB1' := cB HB1 (by repeat (first | exact Below.refl _ _ | refine Below.drew ?_ | refine Below.alloc ?_ (by first | exact Nat.le_refl _ | (simp; done) | (simp; omega)) _)) hb3; clear HB1; have HB1 := HB1'; clear HB1') | (have HB1' := cO HB1 (by repeat (first | exact Below.refl _ _ | refine Below.drew ?_ | refine Below.alloc ?_ (by first | exact Nat.le_refl _ | (simp; done) | (simp; omega)) _)) hb3; clear HB1; have HB1 := HB1'; clear HB1') | (have HB1' := cK HB1 (by repeat (first | exact Below.refl _ _ | refine Below.drew ?_ | refine Below.alloc ?_ (by first | exact Nat.le_refl _ | (simp; done) | (simp; omega)) _)) hb3; clear HB1; have HB1 := HB1'; clear HB1')); clear hb3 H2; go_wp2_with fail)
  refine hK.out _ _ ?_ (fun hHeld => ?_)
  focus (have hz := HS1.out; exact ⟨range_below HR1.out (by omega) (HB1.out.trans (Below.mono (by repeat (first | exact Below.refl _ _ | refine Below.drew ?_ | refine Below.alloc ?_ (by first | exact Nat.le_refl _ | (simp; done) | (simp; omega)) _)) HB1.out.size)), range_below HR2.out (by omega) (HB1.out.trans (Below.mono (by repeat (first | exact Below.refl _ _ | refine Below.drew ?_ | refine Below.alloc ?_ (by first | exact Nat.le_refl _ | (simp; done) | (simp; omega)) _)) HB1.out.size))⟩)
  clear hK K
  try simp only [Act.put, List.setIfInBounds_toArray, List.set_cons_zero, List.set_cons_succ]
  refine wpAnyH_take (i := 5) (oi := { dst := some 4, op := Op.assign (Operand.tmp 9), type := 25, pos := "sip.go:80", after := #[{ on := 4, ground := Ground.data }, { on := 4, ground := Ground.chain }, { on := 0, ground := Ground.phase }, { on := 1, ground := Ground.phase }, { on := 2, ground := Ground.phase }, { on := 3, ground := Ground.phase }, { on := 4, ground := Ground.phase }], guard := none }) (v := ?_) rfl (by kernel_rfl) (by kernel_rfl) (by kernel_rfl) (fun _ _ _ h => h) (Or.inl ⟨by rfl, ?_⟩) hHeld ?_; rotate_left; focus (intro w hSw; (try dsimp only at hSw); go_simp; try with_reducible rfl)
  simp only [Act.put, List.setIfInBounds_toArray, List.set_cons_zero, List.set_cons_succ]
  refine wpAnyH_done (by kernel_rfl) ?_ _
  go_wp2_with fail
  go_ret
  exact ⟨by simp [flat], HB.out.trans (HB1.out.mono HB.out.size)⟩

/-- may a tuple be? -/
def Tup.fit (t : Tup) : Bool := (t.s6 == t.d6) && decide (0 ≤ t.proto) && decide (t.proto ≤ 255) && decide (0 ≤ t.sport) && decide (t.sport ≤ 65535) && decide (0 ≤ t.dport) && decide (t.dport ≤ 65535)
theorem Tup.fit_ports {t : Tup} (h : t.fit = true) : t.s6 = t.d6 ∧ 0 ≤ t.proto ∧ t.proto ≤ 255 ∧ 0 ≤ t.sport ∧ t.sport ≤ 65535 ∧ 0 ≤ t.dport ∧ t.dport ≤ 65535 := by
  simp [Tup.fit, and_assoc] at h
  exact h
theorem be16_two (n : Int) (h0 : 0 ≤ n) (h1 : n ≤ 65535) : be16 n = [byteOf (n / 256), byteOf (n % 256)] := by
  have e : (IntKind.u64.wrap n).toNat = n.toNat := by rw [IntKind.wrap_u64]; omega
  unfold be16 putL
  rw [e]
  have e2 : sizeOf8 2 = 2 := by rfl
  rw [e2]
  have e3 : putLE n.toNat 2 = [byteAt n.toNat 0, byteAt n.toNat 1] := by rfl
  rw [if_pos rfl, e3]
  have b0 : byteAt n.toNat 0 = byteOf (n % 256) := by
    apply UInt8.toNat_inj.1
    rw [byteAt_toNat]
    unfold byteOf
    rw [UInt8.toNat_ofNat_of_lt' (by show (n % 256 % 256).toNat < 256; omega)]
    simp
    omega
  have b1 : byteAt n.toNat 1 = byteOf (n / 256) := by
    apply UInt8.toNat_inj.1
    rw [byteAt_toNat]
    unfold byteOf
    rw [UInt8.toNat_ofNat_of_lt' (by show (n / 256 % 256).toNat < 256; omega)]
    simp
    omega
  rw [b0, b1]
  rfl

set_option maxRecDepth 100000 in
set_option maxHeartbeats 1000000 in
theorem refBytes_any (t : Tup) (ho : t.ok) (hf : t.fit = true) (w : World) :
    Calls Try.prog 14 #[.agg t.cells.toArray] w (RetB 5 t.bytes w) := by
  obtain ⟨_, hp0, hp1, hs0, hs1, hd0, hd1⟩ := Tup.fit_ports hf
  have h0 : TupAt (w.alloc (.cells t.cells.toArray 34)) w.heap.size t := ⟨_, _, heap_alloc_new _ _⟩
  have HB := Lib.hid ((Below.refl w.heap.size w).alloc (Nat.le_refl _) (.cells t.cells.toArray 34))
  have HG := Lib.hid (Tup.get ho)
  have HO := Lib.hid ho
  have H0 := Lib.hid h0
  obtain ⟨fb, hfb⟩ : ∃ fb, fb = fam t.s6 := ⟨_, rfl⟩
  have hff : (t.s6 = false ∧ fb = 4) ∨ (t.s6 = true ∧ fb = 6) := by rw [hfb]; cases t.s6 <;> simp [fam]
  have HFB := Lib.hid hfb
  have c0 := HG.out.1
  clear h0 hfb
  go_enter Try.func14, Try.ntmps14
  rcases hff with ⟨h6, rfl⟩ | ⟨h6, rfl⟩
  · rw [h6] at c0
    go_wp2_with fail
    have HZ : Hid ((w.alloc (.cells t.cells.toArray 34)).heap.size = w.heap.size + 1) := Lib.hid (by simp)
    generalize w.alloc (.cells t.cells.toArray 34) = w1 at *
    clear c0
    go_loopw [3, 4] (fun v i wr => ∃ (j : Nat) (ad' : Option Addr) (c' : Nat), j ≤ 16 ∧ i = .int .i64 j ∧ v = .slice ad' (1 + j) c' ∧ wr.ownsRow w1.heap.size 5 1 (.slice ad' (1 + j) c') (1 + j) (BV ([4] ++ t.sb.take j)) ∧ Below w1.heap.size w1 wr) (fun v _ _ => 1 + 16 - lenV v)
    case atStart => exact ⟨0, _, _, Nat.zero_le _, rfl, rfl, own_lit #[.int .u8 4] 1 1 HZ.out.symm (Nat.le_refl _) rfl (by omega), (by repeat (first | exact Below.refl _ _ | refine Below.drew ?_ | refine Below.alloc ?_ (by first | exact Nat.le_refl _ | (simp; done) | (simp; omega)) _))⟩
    case round =>
      obtain ⟨j, ad2, c2, hj, rfl, rfl, ho2, hb2⟩ := hrel
      have HOO := Lib.hid ho2
      have HBB := Lib.hid hb2
      have hbs := hb2.size
      have hg0 := (HG.out.2.2.2.2.2.1) j
      have hcl := (TupAt.below H0.out (TupAt.lt H0.out) hb2).cell (1 + j)
      clear ho2 hb2
      by_cases hlt : (j : Int) < 16
      · have hjl : j < 16 := by omega
        have hcx := hcl.trans (hg0 hjl)
        have hst := take_snoc8 t.sb j (by rw [HO.out.1]; exact hjl)
        obtain ⟨by8, hby⟩ : ∃ by8, by8 = at8 t.sb j := ⟨_, rfl⟩
        rw [← hby] at hcx hst
        have HST := Lib.hid hst
        clear hst hby hcl hg0
        go_wp2_with ((with_reducible show wpList _ _ _ (⟨some 22, _, _, _, _, _⟩ :: _) _ _); go_must (refine wpL_push elB rfl (.tmp 15) (.tmp 21) rfl w1.heap.size rfl HOO.out _ 1 rfl rfl rfl (BV_one [by8]) (by omega) (by omega) (by omega) hbs HBB.out (Nat.le_refl _) ?_); intro ad3 c3 w3 ho3 hb3 hg3; clear hg3)
        have HO3 := Lib.hid ho3
        have HB3 := Lib.hid hb3
        clear ho3 hb3
        go_wp2_with fail
        go_roundw
        case rel => exact ⟨j + 1, ad3, c3, by omega, by go_num, rfl, by rw [HST.out, ← List.append_assoc, BV_append]; exact HO3.out, HB3.out⟩
        case measure => simp only [lenV]; omega
      · obtain rfl : j = 16 := by omega
        rw [show ((16 : Nat) : Int) = 16 from rfl]
        have hkk : t.sb.take 16 = t.sb := List.take_of_length_le (by rw [HO.out.1]; exact Nat.le_refl _)
        rw [hkk] at HOO
        clear hkk hg0 hcl hlt
        go_wp2_with fail
        obtain ⟨L1, hL1⟩ : ∃ L, L = ([4] : List UInt8) ++ t.sb := ⟨_, rfl⟩
        rw [← hL1] at HOO
        have HL1 := Lib.hid hL1
        clear hL1
        go_loopw [3, 5] (fun v i wr => ∃ (j : Nat) (ad' : Option Addr) (c' : Nat), j ≤ 16 ∧ i = .int .i64 j ∧ v = .slice ad' (17 + j) c' ∧ wr.ownsRow w1.heap.size 5 1 (.slice ad' (17 + j) c') (17 + j) (BV (L1 ++ t.db.take j)) ∧ Below w1.heap.size w1 wr) (fun v _ _ => 17 + 16 - lenV v)
        case atStart =>
          exact ⟨0, _, _, Nat.zero_le _, rfl, rfl, by simpa using HOO.out, HBB.out⟩
        case round =>
          clear HOO HBB hbs
          obtain ⟨j, ad2, c2, hj, rfl, rfl, ho2, hb2⟩ := hrel
          have HOO := Lib.hid ho2
          have HBB := Lib.hid hb2
          have hbs := hb2.size
          have hg0 := (HG.out.2.2.2.2.2.2) j
          have hcl := (TupAt.below H0.out (TupAt.lt H0.out) hb2).cell (18 + j)
          clear ho2 hb2
          by_cases hlt : (j : Int) < 16
          · have hjl : j < 16 := by omega
            have hcx := hcl.trans (hg0 hjl)
            have hst := take_snoc8 t.db j (by rw [HO.out.2]; exact hjl)
            obtain ⟨by8, hby⟩ : ∃ by8, by8 = at8 t.db j := ⟨_, rfl⟩
            rw [← hby] at hcx hst
            have HST := Lib.hid hst
            clear hst hby hcl hg0
            go_wp2_with ((with_reducible show wpList _ _ _ (⟨some 34, _, _, _, _, _⟩ :: _) _ _); go_must (refine wpL_push elB rfl (.tmp 27) (.tmp 33) rfl w1.heap.size rfl HOO.out _ 1 rfl rfl rfl (BV_one [by8]) (by omega) (by omega) (by omega) hbs HBB.out (Nat.le_refl _) ?_); intro ad3 c3 w3 ho3 hb3 hg3; clear hg3)
            have HO3 := Lib.hid ho3
            have HB3 := Lib.hid hb3
            clear ho3 hb3
            go_wp2_with fail
            go_roundw
            case rel => exact ⟨j + 1, ad3, c3, by omega, by go_num, rfl, by rw [HST.out, ← List.append_assoc, BV_append]; exact HO3.out, HB3.out⟩
            case measure => simp only [lenV]; omega
          · obtain rfl : j = 16 := by omega
            rw [show ((16 : Nat) : Int) = 16 from rfl]
            have hkk : t.db.take 16 = t.db := List.take_of_length_le (by rw [HO.out.2]; exact Nat.le_refl _)
            rw [hkk] at HOO
            clear hkk hg0 hcl hlt
            have gk := TupAt.below H0.out (TupAt.lt H0.out) HBB.out
            have k34 := (gk.cell 34).trans HG.out.2.2.1
            have k35 := (gk.cell 35).trans HG.out.2.2.2.1
            have k36 := (gk.cell 36).trans HG.out.2.2.2.2.1
            clear gk
            have e0 : (t.proto : Int) = ((byteOf t.proto).toNat : Int) := by rw [← byteOf_wrap, IntKind.wrap_u8]; omega
            have e1 : t.sport / 256 = ((byteOf (t.sport / 256)).toNat : Int) := by rw [← byteOf_wrap, IntKind.wrap_u8]; omega
            have e2 : t.sport % 256 = ((byteOf (t.sport % 256)).toNat : Int) := by rw [← byteOf_wrap, IntKind.wrap_u8]; omega
            have e3 : t.dport / 256 = ((byteOf (t.dport / 256)).toNat : Int) := by rw [← byteOf_wrap, IntKind.wrap_u8]; omega
            have e4 : t.dport % 256 = ((byteOf (t.dport % 256)).toNat : Int) := by rw [← byteOf_wrap, IntKind.wrap_u8]; omega
            have hv : BV [byteOf t.proto, byteOf (t.sport / 256), byteOf (t.sport % 256), byteOf (t.dport / 256), byteOf (t.dport % 256)] = [.int .u8 t.proto, .int .u8 (t.sport / 256), .int .u8 (t.sport % 256), .int .u8 (t.dport / 256), .int .u8 (t.dport % 256)] := by
              unfold BV
              simp only [List.map_cons, List.map_nil]
              rw [← e0, ← e1, ← e2, ← e3, ← e4]
            have hall : L1 ++ t.db ++ [byteOf t.proto, byteOf (t.sport / 256), byteOf (t.sport % 256), byteOf (t.dport / 256), byteOf (t.dport % 256)] = t.bytes := by
              rw [HL1.out]
              unfold Tup.bytes
              rw [← HFB.out, be16_two _ hs0 hs1, be16_two _ hd0 hd1]
              simp
            have HV := Lib.hid hv
            have HALL := Lib.hid hall
            clear e0 e1 e2 e3 e4 hv hall
            go_wp2_with ((with_reducible show wpList _ _ _ (⟨some 56, _, _, _, _, _⟩ :: _) _ _); go_must (refine wpL_push elB rfl (.tmp 35) (.tmp 55) rfl w1.heap.size rfl HOO.out _ 5 rfl rfl rfl (by rw [← HV.out]; exact BV_one _) (by omega) (by omega) (by omega) hbs HBB.out (Nat.le_refl _) ?_); intro ad4 c4 w4 ho4 hb4 hg4; clear hg4)
            have HO4 : Hid (w4.ownsRow w1.heap.size 5 1 (.slice ad4 38 c4) 38 (BV t.bytes)) := Lib.hid (by rw [← HALL.out, BV_append, HV.out]; exact ho4)
            have HB4 := Lib.hid hb4
            clear ho4 hb4
            go_wp2_with fail
            go_ret
            have hbl : t.bytes.length = 38 := by have := ho.1; have := ho.2; simp [Tup.bytes, be16, putL_length, sizeOf8]; omega
            exact ⟨ad4, c4, by rw [hbl]; rfl, by rw [hbl]; exact own_base HO4.out HB.out.size, HB.out.trans (HB4.out.mono HB.out.size)⟩
  · rw [h6] at c0
    go_wp2_with fail
    have HZ : Hid ((w.alloc (.cells t.cells.toArray 34)).heap.size = w.heap.size + 1) := Lib.hid (by simp)
    generalize w.alloc (.cells t.cells.toArray 34) = w1 at *
    clear c0
    go_loopw [3, 4] (fun v i wr => ∃ (j : Nat) (ad' : Option Addr) (c' : Nat), j ≤ 16 ∧ i = .int .i64 j ∧ v = .slice ad' (1 + j) c' ∧ wr.ownsRow w1.heap.size 5 1 (.slice ad' (1 + j) c') (1 + j) (BV ([6] ++ t.sb.take j)) ∧ Below w1.heap.size w1 wr) (fun v _ _ => 1 + 16 - lenV v)
    case atStart => exact ⟨0, _, _, Nat.zero_le _, rfl, rfl, own_lit (v := w1.alloc _) #[.int .u8 6] 1 1 (by have := HZ.out; simp; omega) (by simp) rfl (by omega), (by repeat (first | exact Below.refl _ _ | refine Below.drew ?_ | refine Below.alloc ?_ (by first | exact Nat.le_refl _ | (simp; done) | (simp; omega)) _))⟩
    case round =>
      obtain ⟨j, ad2, c2, hj, rfl, rfl, ho2, hb2⟩ := hrel
      have HOO := Lib.hid ho2
      have HBB := Lib.hid hb2
      have hbs := hb2.size
      have hg0 := (HG.out.2.2.2.2.2.1) j
      have hcl := (TupAt.below H0.out (TupAt.lt H0.out) hb2).cell (1 + j)
      clear ho2 hb2
      by_cases hlt : (j : Int) < 16
      · have hjl : j < 16 := by omega
        have hcx := hcl.trans (hg0 hjl)
        have hst := take_snoc8 t.sb j (by rw [HO.out.1]; exact hjl)
        obtain ⟨by8, hby⟩ : ∃ by8, by8 = at8 t.sb j := ⟨_, rfl⟩
        rw [← hby] at hcx hst
        have HST := Lib.hid hst
        clear hst hby hcl hg0
        go_wp2_with ((with_reducible show wpList _ _ _ (⟨some 22, _, _, _, _, _⟩ :: _) _ _); go_must (refine wpL_push elB rfl (.tmp 15) (.tmp 21) rfl w1.heap.size rfl HOO.out _ 1 rfl rfl rfl (BV_one [by8]) (by omega) (by omega) (by omega) hbs HBB.out (Nat.le_refl _) ?_); intro ad3 c3 w3 ho3 hb3 hg3; clear hg3)
        have HO3 := Lib.hid ho3
        have HB3 := Lib.hid hb3
        clear ho3 hb3
        go_wp2_with fail
        go_roundw
        case rel => exact ⟨j + 1, ad3, c3, by omega, by go_num, rfl, by rw [HST.out, ← List.append_assoc, BV_append]; exact HO3.out, HB3.out⟩
        case measure => simp only [lenV]; omega
      · obtain rfl : j = 16 := by omega
        rw [show ((16 : Nat) : Int) = 16 from rfl]
        have hkk : t.sb.take 16 = t.sb := List.take_of_length_le (by rw [HO.out.1]; exact Nat.le_refl _)
        rw [hkk] at HOO
        clear hkk hg0 hcl hlt
        go_wp2_with fail
        obtain ⟨L1, hL1⟩ : ∃ L, L = ([6] : List UInt8) ++ t.sb := ⟨_, rfl⟩
        rw [← hL1] at HOO
        have HL1 := Lib.hid hL1
        clear hL1
        go_loopw [3, 5] (fun v i wr => ∃ (j : Nat) (ad' : Option Addr) (c' : Nat), j ≤ 16 ∧ i = .int .i64 j ∧ v = .slice ad' (17 + j) c' ∧ wr.ownsRow w1.heap.size 5 1 (.slice ad' (17 + j) c') (17 + j) (BV (L1 ++ t.db.take j)) ∧ Below w1.heap.size w1 wr) (fun v _ _ => 17 + 16 - lenV v)
        case atStart =>
          exact ⟨0, _, _, Nat.zero_le _, rfl, rfl, by simpa using HOO.out, HBB.out⟩
        case round =>
          clear HOO HBB hbs
          obtain ⟨j, ad2, c2, hj, rfl, rfl, ho2, hb2⟩ := hrel
          have HOO := Lib.hid ho2
          have HBB := Lib.hid hb2
          have hbs := hb2.size
          have hg0 := (HG.out.2.2.2.2.2.2) j
          have hcl := (TupAt.below H0.out (TupAt.lt H0.out) hb2).cell (18 + j)
          clear ho2 hb2
          by_cases hlt : (j : Int) < 16
          · have hjl : j < 16 := by omega
            have hcx := hcl.trans (hg0 hjl)
            have hst := take_snoc8 t.db j (by rw [HO.out.2]; exact hjl)
            obtain ⟨by8, hby⟩ : ∃ by8, by8 = at8 t.db j := ⟨_, rfl⟩
            rw [← hby] at hcx hst
            have HST := Lib.hid hst
            clear hst hby hcl hg0
            go_wp2_with ((with_reducible show wpList _ _ _ (⟨some 34, _, _, _, _, _⟩ :: _) _ _); go_must (refine wpL_push elB rfl (.tmp 27) (.tmp 33) rfl w1.heap.size rfl HOO.out _ 1 rfl rfl rfl (BV_one [by8]) (by omega) (by omega) (by omega) hbs HBB.out (Nat.le_refl _) ?_); intro ad3 c3 w3 ho3 hb3 hg3; clear hg3)
            have HO3 := Lib.hid ho3
            have HB3 := Lib.hid hb3
            clear ho3 hb3
            go_wp2_with fail
            go_roundw
            case rel => exact ⟨j + 1, ad3, c3, by omega, by go_num, rfl, by rw [HST.out, ← List.append_assoc, BV_append]; exact HO3.out, HB3.out⟩
            case measure => simp only [lenV]; omega
          · obtain rfl : j = 16 := by omega
            rw [show ((16 : Nat) : Int) = 16 from rfl]
            have hkk : t.db.take 16 = t.db := List.take_of_length_le (by rw [HO.out.2]; exact Nat.le_refl _)
            rw [hkk] at HOO
            clear hkk hg0 hcl hlt
            have gk := TupAt.below H0.out (TupAt.lt H0.out) HBB.out
            have k34 := (gk.cell 34).trans HG.out.2.2.1
            have k35 := (gk.cell 35).trans HG.out.2.2.2.1
            have k36 := (gk.cell 36).trans HG.out.2.2.2.2.1
            clear gk
            have e0 : (t.proto : Int) = ((byteOf t.proto).toNat : Int) := by rw [← byteOf_wrap, IntKind.wrap_u8]; omega
            have e1 : t.sport / 256 = ((byteOf (t.sport / 256)).toNat : Int) := by rw [← byteOf_wrap, IntKind.wrap_u8]; omega
            have e2 : t.sport % 256 = ((byteOf (t.sport % 256)).toNat : Int) := by rw [← byteOf_wrap, IntKind.wrap_u8]; omega
            have e3 : t.dport / 256 = ((byteOf (t.dport / 256)).toNat : Int) := by rw [← byteOf_wrap, IntKind.wrap_u8]; omega
            have e4 : t.dport % 256 = ((byteOf (t.dport % 256)).toNat : Int) := by rw [← byteOf_wrap, IntKind.wrap_u8]; omega
            have hv : BV [byteOf t.proto, byteOf (t.sport / 256), byteOf (t.sport % 256), byteOf (t.dport / 256), byteOf (t.dport % 256)] = [.int .u8 t.proto, .int .u8 (t.sport / 256), .int .u8 (t.sport % 256), .int .u8 (t.dport / 256), .int .u8 (t.dport % 256)] := by
              unfold BV
              simp only [List.map_cons, List.map_nil]
              rw [← e0, ← e1, ← e2, ← e3, ← e4]
            have hall : L1 ++ t.db ++ [byteOf t.proto, byteOf (t.sport / 256), byteOf (t.sport % 256), byteOf (t.dport / 256), byteOf (t.dport % 256)] = t.bytes := by
              rw [HL1.out]
              unfold Tup.bytes
              rw [← HFB.out, be16_two _ hs0 hs1, be16_two _ hd0 hd1]
              simp
            have HV := Lib.hid hv
            have HALL := Lib.hid hall
            clear e0 e1 e2 e3 e4 hv hall
            go_wp2_with ((with_reducible show wpList _ _ _ (⟨some 56, _, _, _, _, _⟩ :: _) _ _); go_must (refine wpL_push elB rfl (.tmp 35) (.tmp 55) rfl w1.heap.size rfl HOO.out _ 5 rfl rfl rfl (by rw [← HV.out]; exact BV_one _) (by omega) (by omega) (by omega) hbs HBB.out (Nat.le_refl _) ?_); intro ad4 c4 w4 ho4 hb4 hg4; clear hg4)
            have HO4 : Hid (w4.ownsRow w1.heap.size 5 1 (.slice ad4 38 c4) 38 (BV t.bytes)) := Lib.hid (by rw [← HALL.out, BV_append, HV.out]; exact ho4)
            have HB4 := Lib.hid hb4
            clear ho4 hb4
            go_wp2_with fail
            go_ret
            have hbl : t.bytes.length = 38 := by have := ho.1; have := ho.2; simp [Tup.bytes, be16, putL_length, sizeOf8]; omega
            exact ⟨ad4, c4, by rw [hbl]; rfl, by rw [hbl]; exact own_base HO4.out HB.out.size, HB.out.trans (HB4.out.mono HB.out.size)⟩
end Go.Proofs.Ytehhegkkcbhpgaa
