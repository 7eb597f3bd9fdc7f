/-
  Joined by program (merge.py): GetB, Fld3.
-/
import Derived.Deep.Cut
import Derived.Great.BuildSlice
import Derived.Test.YtmfplinbbcoahaaM5
import Derived.Test.YtmfplinbbcoahaaM12
import Derived.Test.YtmfplinbbcoahaaM16
/-
  Chapter 26: a block read, walked (by genget.py).
-/
namespace Go.Proofs.Ytmfplinbbcoahaa
open Go.RowKit Go.Sort
set_option linter.unusedVariables false
set_option linter.unusedSimpArgs false

theorem open_rest {k : Int} {t : Nat} {b r : List UInt8} {big : Bool} {x : PB} (h : openP k t b big = some (x, r)) : r.length ≤ b.length := by
  unfold openP at h
  repeat' split at h
  all_goals first
    | (cases h; done)
    | (simp only [Option.some.injEq, Prod.mk.injEq] at h
       obtain ⟨_, rfl⟩ := h
       simp [List.length_drop])
/-- what Get answers -/
def GetR (p : PB × Nat × Int) (w : World) (e : Ending) (w' : World) : Prop :=
  ∃ v, e = .returned (.tuple #[.agg v.cells.toArray, .int .i64 ((p.2.1 : Nat) : Int), .int .i64 p.2.2]) ∧ v.val = p.1 ∧ OwnBlk w.heap.size w' v ∧ Below w.heap.size w w'
set_option maxRecDepth 100000 in
set_option maxHeartbeats 16000000 in
theorem get_short (ad : Option Addr) (n c : Nat) (l : List UInt8) (big : Bool) (w : World) (hs : Bs w ad n c l) (hn : n ≤ 1000000000) (h : n < 12) :
    Calls Try.prog 26 #[.slice ad n c, .bool big] w (GetR (getP big l) w) := by
  have HB := Lib.hid (Below.refl w.heap.size w)
  have HS := Lib.hid hs
  have HBI := Lib.hid blk_info
  have HI : Hid ((Try.prog.info? 49).map (·.size) = some 2) := Lib.hid (by kernel_rfl)
  have hc := hs.le
  have HN := Lib.hid hs.len
  clear hs
  have hi : (n : Int) < 12 := by omega
  have HO : Hid (getP big l = (noneB, 0, 2)) := Lib.hid (by have := HN.out; unfold getP; rw [if_pos (by omega)])
  clear HN
  go_enter Try.func26, Try.ntmps26
  go_wp2_with (first
    | ((with_reducible refine sl 4 ?_); go_must (refine wpL_allocG rfl 27 rfl (.agg #[.int .i64 0, .bool false, .int .u32 0, .int .i64 0, .int .u32 0, .int .i64 0, .int .u64 0, .int .u32 0, .slice none 0 0, .slice none 0 0, .slice none 0 0]) #[.int .i64 0, .bool false, .int .u32 0, .int .i64 0, .int .u32 0, .int .i64 0, .int .u64 0, .int .u32 0, .slice none 0 0, .slice none 0 0, .slice none 0 0] 11 (by kernel_rfl) rfl ?_); intro w1 g4 he__ le_g4 lt_g4 hg__ hb__; have HG4 := Lib.hid hg__; have hE__ := cU HB bup hb__; replace HB := ck HB hE__; clear hE__; clear hg__ hb__ he__; simp only [PT])
    | ((with_reducible show wpList _ _ _ (⟨none, .store _ (.tmp 4) (.tmp 17), _, _, _, _⟩ :: _) _ _); go_must (refine wpL_storeRow rfl 27 (.tmp 4) (.tmp 17) rfl g4 #[.int .i64 0, .bool false, .int .u32 0, .int .i64 0, .int .u32 0, .int .i64 0, .int .u64 0, .int .u32 0, .slice none 0 0, .slice none 0 0, .slice none 0 0] rfl rfl HG4.out HBI.out rfl (all1 _ rfl) ?_); intro w99 hs__ hr__; replace HB := cg HB bup hr__ (by omega); clear HG4; have HG4 := Lib.hid hs__; clear hs__ hr__; simp only [PT]))
  (try simp only [Exit.inBlock, Exit.then, Exit.noGoto_ret])
  refine bodyPost_cell1x (cs := [.int .i64 0, .bool false, .int .u32 0, .int .i64 0, .int .u32 0, .int .i64 0, .int .u64 0, .int .u32 0, .slice none 0 0, .slice none 0 0, .slice none 0 0]) rfl rfl (range_block HG4.out) Try.underlying27 rfl HBI.out rfl ?_
  exact ⟨noneV, by rw [HO.out]; rfl, by rw [HO.out]; rfl, ⟨own_nil _ _ _ _, OwnOps.nil _ _ _, OwnOps.nil _ _ _⟩, HB.out⟩

set_option maxRecDepth 100000 in
set_option maxHeartbeats 16000000 in
theorem get_long (ad : Option Addr) (n c : Nat) (l : List UInt8) (big : Bool) (w : World) (hs : Bs w ad n c l) (hn : n ≤ 1000000000) (h : 12 ≤ n) :
    Calls Try.prog 26 #[.slice ad n c, .bool big] w (GetR (getP big l) w) := by
  have HB := Lib.hid (Below.refl w.heap.size w)
  have HS := Lib.hid hs
  have HBI := Lib.hid blk_info
  have HI : Hid ((Try.prog.info? 49).map (·.size) = some 2) := Lib.hid (by kernel_rfl)
  have hc := hs.le
  have HN := Lib.hid hs.len
  clear hs
  have hi : ¬ (n : Int) < 12 := by omega
  obtain ⟨T, hT⟩ : ∃ x, x = getN ((l.drop 0).take 4) big := ⟨_, rfl⟩
  have bT : T < 4294967296 := by rw [hT]; exact w4_lt big l 0
  have HT := Lib.hid hT
  clear hT
  obtain ⟨M1, hM1⟩ : ∃ x, x = getN ((l.drop 8).take 4) true := ⟨_, rfl⟩
  have bM1 : M1 < 4294967296 := by rw [hM1]; exact w4_lt true l 8
  have HM1 := Lib.hid hM1
  clear hM1
  obtain ⟨M2, hM2⟩ : ∃ x, x = getN ((l.drop 8).take 4) false := ⟨_, rfl⟩
  have bM2 : M2 < 4294967296 := by rw [hM2]; exact w4_lt false l 8
  have HM2 := Lib.hid hM2
  clear hM2
  have eT : IntKind.u32.wrap (T : Int) = (T : Int) := by rw [IntKind.wrap_u32]; omega
  have HQ : Hid (getP big l = if T = 168627466 then (if M1 = 439041101 then getQ true l T else if M2 = 439041101 then getQ false l T else (noneB, 0, 3)) else getQ big l T) := Lib.hid (by
    have := HN.out
    unfold getP
    rw [if_neg (by omega), HT.out, HM1.out, HM2.out]
    rfl)
  go_enter Try.func26, Try.ntmps26
  go_upto_if 24 with (first
    | ((with_reducible refine sl 4 ?_); go_must (refine wpL_allocG rfl 27 rfl (.agg #[.int .i64 0, .bool false, .int .u32 0, .int .i64 0, .int .u32 0, .int .i64 0, .int .u64 0, .int .u32 0, .slice none 0 0, .slice none 0 0, .slice none 0 0]) #[.int .i64 0, .bool false, .int .u32 0, .int .i64 0, .int .u32 0, .int .i64 0, .int .u64 0, .int .u32 0, .slice none 0 0, .slice none 0 0, .slice none 0 0] 11 (by kernel_rfl) rfl ?_); intro w1 g4 he__ le_g4 lt_g4 hg__ hb__; have HG4 := Lib.hid hg__; have hE__ := cU HB bup hb__; replace HB := ck HB hE__; clear hE__; clear hg__ hb__ he__; simp only [PT])
    | ((with_reducible refine sl 19 ?_); go_must (refine wpL_sliceG elB rfl (.tmp 18) none (some (.const (.int .i64 4))) rfl rfl 0 4 (.inl ⟨rfl, rfl⟩) (.inr ⟨.i64, rfl⟩) (by omega) (by omega) 4 c rfl rfl ?_); intro ad19 had; have HA19 := Lib.hid (Bs.partG HS.out 0 4 4 c (by omega) (by omega) rfl rfl ad19 had ((l.drop 0).take 4) rfl); clear had; simp only [PT])
    | (go_at_call 57; (with_reducible show Calls _ _ #[Value.slice ad19 _ _, _] _ _); go_must (refine (get_any ad19 4 c _ big _ (HA19.out.below (HB.out.trans (Below.mono bup HB.out.size)))).mono ?_); intro e w2 hr; unfold RetN at hr; rw [← HT.out] at hr; obtain ⟨rfl, hb__⟩ := hr; have hE__ := cU HB bup hb__; replace HB := ck HB hE__; replace HG4 := ck HG4 hE__; clear hE__; clear hb__))
  go_cut [1, 7] from 14 (fun s1 s7 wx => ∃ G : Bool, s1 = .bool G ∧ s7 = .int .u32 (T : Int) ∧ Hid (getP big l = getQ G l T) ∧ wx.heap[g4]? = some (.cells #[.int .i64 0, .bool false, .int .u32 0, .int .i64 0, .int .u32 0, .int .i64 0, .int .u64 0, .int .u32 0, .slice none 0 0, .slice none 0 0, .slice none 0 0] 27 (0, 0)) ∧ Below w.heap.size w wx)
  case first =>
    by_cases hT : T = 168627466
    · have hTi : (T : Int) = 168627466 := by omega
      have HTT := Lib.hid hT
      by_cases h1 : M1 = 439041101
      · have h1i : (439041101 : Int) = (M1 : Int) := by omega
        have HO : Hid (getP big l = getQ true l T) := Lib.hid (by rw [HQ.out, if_pos hT, if_pos h1])
        clear hT h1 HQ
        go_wp2_with (first
          | ((with_reducible refine sl 28 ?_); go_must (refine wpL_sliceG elB rfl (.tmp 27) (some (.const (.int .i64 8))) (some (.const (.int .i64 12))) rfl rfl 8 12 (.inr ⟨.i64, rfl⟩) (.inr ⟨.i64, rfl⟩) (by omega) (by omega) 4 (c - 8) rfl rfl ?_); intro ad28 had; have HA28 := Lib.hid (Bs.partG HS.out 8 12 4 (c - 8) (by omega) (by omega) rfl rfl ad28 had ((l.drop 8).take 4) rfl); clear had; simp only [PT])
          | (go_at_call 57; (with_reducible show Calls _ _ #[Value.slice ad28 _ _, _] _ _); go_must (refine (get_any ad28 4 (c - 8) _ true _ (HA28.out.below (HB.out.trans (Below.mono bup HB.out.size)))).mono ?_); intro e w3 hr; unfold RetN at hr; rw [← HM1.out] at hr; obtain ⟨rfl, hb__⟩ := hr; have hE__ := cU HB bup hb__; replace HB := ck HB hE__; replace HG4 := ck HG4 hE__; clear hE__; clear hb__))
        go_meet
        case rel => exact ⟨true, rfl, by rw [HTT.out]; rfl, HO, HG4.out, HB.out⟩
      · have h1i : ¬ (439041101 : Int) = (M1 : Int) := by omega
        by_cases h2 : M2 = 439041101
        · have h2i : (439041101 : Int) = (M2 : Int) := by omega
          have HO : Hid (getP big l = getQ false l T) := Lib.hid (by rw [HQ.out, if_pos hT, if_neg h1, if_pos h2])
          clear hT h1 h2 HQ
          go_wp2_with (first
            | ((with_reducible refine sl 28 ?_); go_must (refine wpL_sliceG elB rfl (.tmp 27) (some (.const (.int .i64 8))) (some (.const (.int .i64 12))) rfl rfl 8 12 (.inr ⟨.i64, rfl⟩) (.inr ⟨.i64, rfl⟩) (by omega) (by omega) 4 (c - 8) rfl rfl ?_); intro ad28 had; have HA28 := Lib.hid (Bs.partG HS.out 8 12 4 (c - 8) (by omega) (by omega) rfl rfl ad28 had ((l.drop 8).take 4) rfl); clear had; simp only [PT])
            | (go_at_call 57; (with_reducible show Calls _ _ #[Value.slice ad28 _ _, _] _ _); go_must (refine (get_any ad28 4 (c - 8) _ true _ (HA28.out.below (HB.out.trans (Below.mono bup HB.out.size)))).mono ?_); intro e w3 hr; unfold RetN at hr; rw [← HM1.out] at hr; obtain ⟨rfl, hb__⟩ := hr; have hE__ := cU HB bup hb__; replace HB := ck HB hE__; replace HG4 := ck HG4 hE__; clear hE__; clear hb__)
            | ((with_reducible refine sl 33 ?_); go_must (refine wpL_sliceG elB rfl (.tmp 32) (some (.const (.int .i64 8))) (some (.const (.int .i64 12))) rfl rfl 8 12 (.inr ⟨.i64, rfl⟩) (.inr ⟨.i64, rfl⟩) (by omega) (by omega) 4 (c - 8) rfl rfl ?_); intro ad33 had; have HA33 := Lib.hid (Bs.partG HS.out 8 12 4 (c - 8) (by omega) (by omega) rfl rfl ad33 had ((l.drop 8).take 4) rfl); clear had; simp only [PT])
            | (go_at_call 57; (with_reducible show Calls _ _ #[Value.slice ad33 _ _, _] _ _); go_must (refine (get_any ad33 4 (c - 8) _ false _ (HA33.out.below (HB.out.trans (Below.mono bup HB.out.size)))).mono ?_); intro e w4 hr; unfold RetN at hr; rw [← HM2.out] at hr; obtain ⟨rfl, hb__⟩ := hr; have hE__ := cU HB bup hb__; replace HB := ck HB hE__; replace HG4 := ck HG4 hE__; clear hE__; clear hb__))
          go_meet
          case rel => exact ⟨false, rfl, by rw [HTT.out]; rfl, HO, HG4.out, HB.out⟩
        · have h2i : ¬ (439041101 : Int) = (M2 : Int) := by omega
          have HO : Hid (getP big l = (noneB, 0, 3)) := Lib.hid (by rw [HQ.out, if_pos hT, if_neg h1, if_neg h2])
          clear hT h1 h2 HQ
          go_wp2_with (first
            | ((with_reducible refine sl 28 ?_); go_must (refine wpL_sliceG elB rfl (.tmp 27) (some (.const (.int .i64 8))) (some (.const (.int .i64 12))) rfl rfl 8 12 (.inr ⟨.i64, rfl⟩) (.inr ⟨.i64, rfl⟩) (by omega) (by omega) 4 (c - 8) rfl rfl ?_); intro ad28 had; have HA28 := Lib.hid (Bs.partG HS.out 8 12 4 (c - 8) (by omega) (by omega) rfl rfl ad28 had ((l.drop 8).take 4) rfl); clear had; simp only [PT])
            | (go_at_call 57; (with_reducible show Calls _ _ #[Value.slice ad28 _ _, _] _ _); go_must (refine (get_any ad28 4 (c - 8) _ true _ (HA28.out.below (HB.out.trans (Below.mono bup HB.out.size)))).mono ?_); intro e w3 hr; unfold RetN at hr; rw [← HM1.out] at hr; obtain ⟨rfl, hb__⟩ := hr; have hE__ := cU HB bup hb__; replace HB := ck HB hE__; replace HG4 := ck HG4 hE__; clear hE__; clear hb__)
            | ((with_reducible refine sl 33 ?_); go_must (refine wpL_sliceG elB rfl (.tmp 32) (some (.const (.int .i64 8))) (some (.const (.int .i64 12))) rfl rfl 8 12 (.inr ⟨.i64, rfl⟩) (.inr ⟨.i64, rfl⟩) (by omega) (by omega) 4 (c - 8) rfl rfl ?_); intro ad33 had; have HA33 := Lib.hid (Bs.partG HS.out 8 12 4 (c - 8) (by omega) (by omega) rfl rfl ad33 had ((l.drop 8).take 4) rfl); clear had; simp only [PT])
            | (go_at_call 57; (with_reducible show Calls _ _ #[Value.slice ad33 _ _, _] _ _); go_must (refine (get_any ad33 4 (c - 8) _ false _ (HA33.out.below (HB.out.trans (Below.mono bup HB.out.size)))).mono ?_); intro e w4 hr; unfold RetN at hr; rw [← HM2.out] at hr; obtain ⟨rfl, hb__⟩ := hr; have hE__ := cU HB bup hb__; replace HB := ck HB hE__; replace HG4 := ck HG4 hE__; clear hE__; clear hb__)
            | ((with_reducible show wpList _ _ _ (⟨none, .store _ (.tmp 4) (.tmp 25), _, _, _, _⟩ :: _) _ _); go_must (refine wpL_storeRow rfl 27 (.tmp 4) (.tmp 25) rfl g4 #[.int .i64 0, .bool false, .int .u32 0, .int .i64 0, .int .u32 0, .int .i64 0, .int .u64 0, .int .u32 0, .slice none 0 0, .slice none 0 0, .slice none 0 0] rfl rfl HG4.out HBI.out rfl (all1 _ rfl) ?_); intro w99 hs__ hr__; replace HB := cg HB bup hr__ (by omega); clear HG4; have HG4 := Lib.hid hs__; clear hs__ hr__; simp only [PT]))
          (try simp only [Exit.inBlock, Exit.then, Exit.noGoto_ret])
          refine bodyPost_cell1x (cs := [.int .i64 0, .bool false, .int .u32 0, .int .i64 0, .int .u32 0, .int .i64 0, .int .u64 0, .int .u32 0, .slice none 0 0, .slice none 0 0, .slice none 0 0]) rfl rfl (range_block HG4.out) Try.underlying27 rfl HBI.out rfl ?_
          exact ⟨noneV, by rw [HO.out]; rfl, by rw [HO.out]; rfl, ⟨own_nil _ _ _ _, OwnOps.nil _ _ _, OwnOps.nil _ _ _⟩, HB.out⟩
    · have hTi : ¬ (T : Int) = 168627466 := by omega
      have HO : Hid (getP big l = getQ big l T) := Lib.hid (by rw [HQ.out, if_neg hT])
      clear hT HQ
      go_wp2_with fail
      go_meet
      case rel => exact ⟨big, rfl, rfl, HO, HG4.out, HB.out⟩
  case rest =>
    obtain ⟨G, rfl, rfl, HQG, hg4, hb4⟩ := hcut
    clear HB HQ
    have HB := Lib.hid hb4
    have HG4 := Lib.hid hg4
    clear hg4 hb4
    obtain ⟨N4, hN4⟩ : ∃ x, x = getN ((l.drop 4).take 4) G := ⟨_, rfl⟩
    have bN4 : N4 < 4294967296 := by rw [hN4]; exact w4_lt G l 4
    have HN4 := Lib.hid hN4
    clear hN4
    obtain ⟨NL, hNL⟩ : ∃ x, x = getN ((l.drop (N4 - 4)).take 4) G := ⟨_, rfl⟩
    have bNL : NL < 4294967296 := by rw [hNL]; exact w4_lt G l (N4 - 4)
    have HNL := Lib.hid hNL
    clear hNL
    have eN : IntKind.i64.wrap (N4 : Int) = (N4 : Int) := by rw [IntKind.wrap_i64]; omega
    have eL : IntKind.i64.wrap (NL : Int) = (NL : Int) := by rw [IntKind.wrap_i64]; omega
    have HQ : Hid (getP big l = if N4 < 12 ∨ N4 % 4 ≠ 0 then (noneB, 0, 3) else if 1048576 < N4 then (noneB, 0, 4) else if l.length < N4 then (noneB, 0, 2) else if NL ≠ N4 then (noneB, 0, 3)
        else endP G N4 (openP (kindP T) T ((l.take (N4 - 4)).drop 8) G)) := Lib.hid (by
      rw [HQG.out]
      unfold getQ
      rw [show w4 G l 4 = N4 from HN4.out.symm, show w4 G l (N4 - 4) = NL from HNL.out.symm])
    clear HQG
    obtain ⟨J, hJ⟩ : ∃ J, J = N4 - 4 := ⟨_, rfl⟩
    rw [← hJ] at HNL HQ
    have HJ := Lib.hid hJ
    clear hJ
    by_cases h1 : N4 < 12
    · have h1i : (N4 : Int) < 12 := by omega
      have hb2 : (decide ((N4 : Int) < 12) || (N4 : Int) % 4 != 0) = true := by simp [h1i]
      have HO : Hid (getP big l = (noneB, 0, 3)) := Lib.hid (by rw [HQ.out, if_pos (.inl h1)])
      clear HQ HN
      go_wp2_with (first
        | ((with_reducible refine sl 37 ?_); go_must (refine wpL_sliceG elB rfl (.tmp 36) (some (.const (.int .i64 4))) (some (.const (.int .i64 8))) rfl rfl 4 8 (.inr ⟨.i64, rfl⟩) (.inr ⟨.i64, rfl⟩) (by omega) (by omega) 4 (c - 4) rfl rfl ?_); intro ad37 had; have HA37 := Lib.hid (Bs.partG HS.out 4 8 4 (c - 4) (by omega) (by omega) rfl rfl ad37 had ((l.drop 4).take 4) rfl); clear had; simp only [PT])
        | (go_at_call 57; (with_reducible show Calls _ _ #[Value.slice ad37 _ _, _] _ _); go_must (refine (get_any ad37 4 (c - 4) _ G _ (HA37.out.below (HB.out.trans (Below.mono bup HB.out.size)))).mono ?_); intro e w5 hr; unfold RetN at hr; rw [← HN4.out] at hr; obtain ⟨rfl, hb__⟩ := hr; have hE__ := cU HB bup hb__; replace HB := ck HB hE__; replace HG4 := ck HG4 hE__; clear hE__; clear hb__)
        | ((with_reducible show wpList _ _ _ (⟨none, .store _ (.tmp 4) (.tmp 49), _, _, _, _⟩ :: _) _ _); go_must (refine wpL_storeRow rfl 27 (.tmp 4) (.tmp 49) rfl g4 #[.int .i64 0, .bool false, .int .u32 0, .int .i64 0, .int .u32 0, .int .i64 0, .int .u64 0, .int .u32 0, .slice none 0 0, .slice none 0 0, .slice none 0 0] rfl rfl HG4.out HBI.out rfl (all1 _ rfl) ?_); intro w99 hs__ hr__; replace HB := cg HB bup hr__ (by omega); clear HG4; have HG4 := Lib.hid hs__; clear hs__ hr__; simp only [PT]))
      (try simp only [Exit.inBlock, Exit.then, Exit.noGoto_ret])
      refine bodyPost_cell1x (cs := [.int .i64 0, .bool false, .int .u32 0, .int .i64 0, .int .u32 0, .int .i64 0, .int .u64 0, .int .u32 0, .slice none 0 0, .slice none 0 0, .slice none 0 0]) rfl rfl (range_block HG4.out) Try.underlying27 rfl HBI.out rfl ?_
      exact ⟨noneV, by rw [HO.out]; rfl, by rw [HO.out]; rfl, ⟨own_nil _ _ _ _, OwnOps.nil _ _ _, OwnOps.nil _ _ _⟩, HB.out⟩
    have h1i : ¬ (N4 : Int) < 12 := by omega
    by_cases h2 : N4 % 4 = 0
    rotate_left
    · have HO : Hid (getP big l = (noneB, 0, 3)) := Lib.hid (by rw [HQ.out, if_pos (.inr h2)])
      have h2i : ¬ (N4 : Int) % 4 = 0 := by omega
      have hb2 : (decide ((N4 : Int) < 12) || (N4 : Int) % 4 != 0) = true := by simp [h1i, h2i]
      clear HQ HN
      go_wp2_with (first
        | ((with_reducible refine sl 37 ?_); go_must (refine wpL_sliceG elB rfl (.tmp 36) (some (.const (.int .i64 4))) (some (.const (.int .i64 8))) rfl rfl 4 8 (.inr ⟨.i64, rfl⟩) (.inr ⟨.i64, rfl⟩) (by omega) (by omega) 4 (c - 4) rfl rfl ?_); intro ad37 had; have HA37 := Lib.hid (Bs.partG HS.out 4 8 4 (c - 4) (by omega) (by omega) rfl rfl ad37 had ((l.drop 4).take 4) rfl); clear had; simp only [PT])
        | (go_at_call 57; (with_reducible show Calls _ _ #[Value.slice ad37 _ _, _] _ _); go_must (refine (get_any ad37 4 (c - 4) _ G _ (HA37.out.below (HB.out.trans (Below.mono bup HB.out.size)))).mono ?_); intro e w5 hr; unfold RetN at hr; rw [← HN4.out] at hr; obtain ⟨rfl, hb__⟩ := hr; have hE__ := cU HB bup hb__; replace HB := ck HB hE__; replace HG4 := ck HG4 hE__; clear hE__; clear hb__)
        | ((with_reducible show wpList _ _ _ (⟨none, .store _ (.tmp 4) (.tmp 49), _, _, _, _⟩ :: _) _ _); go_must (refine wpL_storeRow rfl 27 (.tmp 4) (.tmp 49) rfl g4 #[.int .i64 0, .bool false, .int .u32 0, .int .i64 0, .int .u32 0, .int .i64 0, .int .u64 0, .int .u32 0, .slice none 0 0, .slice none 0 0, .slice none 0 0] rfl rfl HG4.out HBI.out rfl (all1 _ rfl) ?_); intro w99 hs__ hr__; replace HB := cg HB bup hr__ (by omega); clear HG4; have HG4 := Lib.hid hs__; clear hs__ hr__; simp only [PT]))
      (try simp only [Exit.inBlock, Exit.then, Exit.noGoto_ret])
      refine bodyPost_cell1x (cs := [.int .i64 0, .bool false, .int .u32 0, .int .i64 0, .int .u32 0, .int .i64 0, .int .u64 0, .int .u32 0, .slice none 0 0, .slice none 0 0, .slice none 0 0]) rfl rfl (range_block HG4.out) Try.underlying27 rfl HBI.out rfl ?_
      exact ⟨noneV, by rw [HO.out]; rfl, by rw [HO.out]; rfl, ⟨own_nil _ _ _ _, OwnOps.nil _ _ _, OwnOps.nil _ _ _⟩, HB.out⟩
    have h2i : (N4 : Int) % 4 = 0 := by omega
    have hb2 : (decide ((N4 : Int) < 12) || (N4 : Int) % 4 != 0) = false := by simp [h1i, h2i]
    replace HQ := Lib.hid (HQ.out.trans (if_neg (by omega)))
    by_cases h3 : 1048576 < N4
    · have h3i : (1048576 : Int) < (N4 : Int) := by omega
      have HO : Hid (getP big l = (noneB, 0, 4)) := Lib.hid (by rw [HQ.out, if_pos h3])
      clear HQ HN
      go_wp2_with (first
        | ((with_reducible refine sl 37 ?_); go_must (refine wpL_sliceG elB rfl (.tmp 36) (some (.const (.int .i64 4))) (some (.const (.int .i64 8))) rfl rfl 4 8 (.inr ⟨.i64, rfl⟩) (.inr ⟨.i64, rfl⟩) (by omega) (by omega) 4 (c - 4) rfl rfl ?_); intro ad37 had; have HA37 := Lib.hid (Bs.partG HS.out 4 8 4 (c - 4) (by omega) (by omega) rfl rfl ad37 had ((l.drop 4).take 4) rfl); clear had; simp only [PT])
        | (go_at_call 57; (with_reducible show Calls _ _ #[Value.slice ad37 _ _, _] _ _); go_must (refine (get_any ad37 4 (c - 4) _ G _ (HA37.out.below (HB.out.trans (Below.mono bup HB.out.size)))).mono ?_); intro e w5 hr; unfold RetN at hr; rw [← HN4.out] at hr; obtain ⟨rfl, hb__⟩ := hr; have hE__ := cU HB bup hb__; replace HB := ck HB hE__; replace HG4 := ck HG4 hE__; clear hE__; clear hb__)
        | ((with_reducible show wpList _ _ _ (⟨none, .store _ (.tmp 4) (.tmp 53), _, _, _, _⟩ :: _) _ _); go_must (refine wpL_storeRow rfl 27 (.tmp 4) (.tmp 53) rfl g4 #[.int .i64 0, .bool false, .int .u32 0, .int .i64 0, .int .u32 0, .int .i64 0, .int .u64 0, .int .u32 0, .slice none 0 0, .slice none 0 0, .slice none 0 0] rfl rfl HG4.out HBI.out rfl (all1 _ rfl) ?_); intro w99 hs__ hr__; replace HB := cg HB bup hr__ (by omega); clear HG4; have HG4 := Lib.hid hs__; clear hs__ hr__; simp only [PT]))
      (try simp only [Exit.inBlock, Exit.then, Exit.noGoto_ret])
      refine bodyPost_cell1x (cs := [.int .i64 0, .bool false, .int .u32 0, .int .i64 0, .int .u32 0, .int .i64 0, .int .u64 0, .int .u32 0, .slice none 0 0, .slice none 0 0, .slice none 0 0]) rfl rfl (range_block HG4.out) Try.underlying27 rfl HBI.out rfl ?_
      exact ⟨noneV, by rw [HO.out]; rfl, by rw [HO.out]; rfl, ⟨own_nil _ _ _ _, OwnOps.nil _ _ _, OwnOps.nil _ _ _⟩, HB.out⟩
    have h3i : ¬ (1048576 : Int) < (N4 : Int) := by omega
    replace HQ := Lib.hid (HQ.out.trans (if_neg h3))
    by_cases h4 : n < N4
    · have h4i : (n : Int) < (N4 : Int) := by omega
      have HO : Hid (getP big l = (noneB, 0, 2)) := Lib.hid (by rw [HQ.out, if_pos (by have := HN.out; omega)])
      clear HQ HN
      go_wp2_with (first
        | ((with_reducible refine sl 37 ?_); go_must (refine wpL_sliceG elB rfl (.tmp 36) (some (.const (.int .i64 4))) (some (.const (.int .i64 8))) rfl rfl 4 8 (.inr ⟨.i64, rfl⟩) (.inr ⟨.i64, rfl⟩) (by omega) (by omega) 4 (c - 4) rfl rfl ?_); intro ad37 had; have HA37 := Lib.hid (Bs.partG HS.out 4 8 4 (c - 4) (by omega) (by omega) rfl rfl ad37 had ((l.drop 4).take 4) rfl); clear had; simp only [PT])
        | (go_at_call 57; (with_reducible show Calls _ _ #[Value.slice ad37 _ _, _] _ _); go_must (refine (get_any ad37 4 (c - 4) _ G _ (HA37.out.below (HB.out.trans (Below.mono bup HB.out.size)))).mono ?_); intro e w5 hr; unfold RetN at hr; rw [← HN4.out] at hr; obtain ⟨rfl, hb__⟩ := hr; have hE__ := cU HB bup hb__; replace HB := ck HB hE__; replace HG4 := ck HG4 hE__; clear hE__; clear hb__)
        | ((with_reducible show wpList _ _ _ (⟨none, .store _ (.tmp 4) (.tmp 59), _, _, _, _⟩ :: _) _ _); go_must (refine wpL_storeRow rfl 27 (.tmp 4) (.tmp 59) rfl g4 #[.int .i64 0, .bool false, .int .u32 0, .int .i64 0, .int .u32 0, .int .i64 0, .int .u64 0, .int .u32 0, .slice none 0 0, .slice none 0 0, .slice none 0 0] rfl rfl HG4.out HBI.out rfl (all1 _ rfl) ?_); intro w99 hs__ hr__; replace HB := cg HB bup hr__ (by omega); clear HG4; have HG4 := Lib.hid hs__; clear hs__ hr__; simp only [PT]))
      (try simp only [Exit.inBlock, Exit.then, Exit.noGoto_ret])
      refine bodyPost_cell1x (cs := [.int .i64 0, .bool false, .int .u32 0, .int .i64 0, .int .u32 0, .int .i64 0, .int .u64 0, .int .u32 0, .slice none 0 0, .slice none 0 0, .slice none 0 0]) rfl rfl (range_block HG4.out) Try.underlying27 rfl HBI.out rfl ?_
      exact ⟨noneV, by rw [HO.out]; rfl, by rw [HO.out]; rfl, ⟨own_nil _ _ _ _, OwnOps.nil _ _ _, OwnOps.nil _ _ _⟩, HB.out⟩
    have h4i : ¬ (n : Int) < (N4 : Int) := by omega
    replace HQ := Lib.hid (HQ.out.trans (if_neg (by have := HN.out; omega)))
    have j1 : J + 4 ≤ N4 := by have := HJ.out; omega
    have j2 : N4 ≤ J + 4 := by have := HJ.out; omega
    have j3 : (N4 : Int) - 4 = (J : Int) := by omega
    have j4 : IntKind.i64.wrap ((N4 : Int) - 4) = (J : Int) := by rw [IntKind.wrap_i64]; omega
    have j5 : IntKind.i64.wrap (J : Int) = (J : Int) := by rw [IntKind.wrap_i64]; omega
    have HNJ : Hid (N4 - J = 4) := Lib.hid (by omega)
    by_cases h5 : NL = N4
    rotate_left
    · have h5i : ¬ (NL : Int) = (N4 : Int) := by omega
      have HO : Hid (getP big l = (noneB, 0, 3)) := Lib.hid (by rw [HQ.out, if_pos h5])
      clear HQ HN
      go_wp2_with (first
        | ((with_reducible refine sl 37 ?_); go_must (refine wpL_sliceG elB rfl (.tmp 36) (some (.const (.int .i64 4))) (some (.const (.int .i64 8))) rfl rfl 4 8 (.inr ⟨.i64, rfl⟩) (.inr ⟨.i64, rfl⟩) (by omega) (by omega) 4 (c - 4) rfl rfl ?_); intro ad37 had; have HA37 := Lib.hid (Bs.partG HS.out 4 8 4 (c - 4) (by omega) (by omega) rfl rfl ad37 had ((l.drop 4).take 4) rfl); clear had; simp only [PT])
        | (go_at_call 57; (with_reducible show Calls _ _ #[Value.slice ad37 _ _, _] _ _); go_must (refine (get_any ad37 4 (c - 4) _ G _ (HA37.out.below (HB.out.trans (Below.mono bup HB.out.size)))).mono ?_); intro e w5 hr; unfold RetN at hr; rw [← HN4.out] at hr; obtain ⟨rfl, hb__⟩ := hr; have hE__ := cU HB bup hb__; replace HB := ck HB hE__; replace HG4 := ck HG4 hE__; clear hE__; clear hb__)
        | ((with_reducible refine sl 65 ?_); go_must (refine wpL_sliceG elB rfl (.tmp 61) (some (.tmp 63)) (some (.tmp 64)) rfl rfl J N4 (.inr ⟨.i64, rfl⟩) (.inr ⟨.i64, rfl⟩) (by omega) (by omega) 4 (c - J) HNJ.out rfl ?_); intro ad65 had; have HA65 := Lib.hid (Bs.partG HS.out J N4 4 (c - J) (by omega) (by omega) HNJ.out rfl ad65 had ((l.drop J).take 4) rfl); clear had; simp only [PT])
        | (go_at_call 57; (with_reducible show Calls _ _ #[Value.slice ad65 _ _, _] _ _); go_must (refine (get_any ad65 4 (c - J) _ G _ (HA65.out.below (HB.out.trans (Below.mono bup HB.out.size)))).mono ?_); intro e w6 hr; unfold RetN at hr; rw [← HNL.out] at hr; obtain ⟨rfl, hb__⟩ := hr; have hE__ := cU HB bup hb__; replace HB := ck HB hE__; replace HG4 := ck HG4 hE__; clear hE__; clear hb__)
        | ((with_reducible show wpList _ _ _ (⟨none, .store _ (.tmp 4) (.tmp 71), _, _, _, _⟩ :: _) _ _); go_must (refine wpL_storeRow rfl 27 (.tmp 4) (.tmp 71) rfl g4 #[.int .i64 0, .bool false, .int .u32 0, .int .i64 0, .int .u32 0, .int .i64 0, .int .u64 0, .int .u32 0, .slice none 0 0, .slice none 0 0, .slice none 0 0] rfl rfl HG4.out HBI.out rfl (all1 _ rfl) ?_); intro w99 hs__ hr__; replace HB := cg HB bup hr__ (by omega); clear HG4; have HG4 := Lib.hid hs__; clear hs__ hr__; simp only [PT]))
      (try simp only [Exit.inBlock, Exit.then, Exit.noGoto_ret])
      refine bodyPost_cell1x (cs := [.int .i64 0, .bool false, .int .u32 0, .int .i64 0, .int .u32 0, .int .i64 0, .int .u64 0, .int .u32 0, .slice none 0 0, .slice none 0 0, .slice none 0 0]) rfl rfl (range_block HG4.out) Try.underlying27 rfl HBI.out rfl ?_
      exact ⟨noneV, by rw [HO.out]; rfl, by rw [HO.out]; rfl, ⟨own_nil _ _ _ _, OwnOps.nil _ _ _, OwnOps.nil _ _ _⟩, HB.out⟩
    replace HQ := Lib.hid (HQ.out.trans (if_neg (fun e => e h5)))
    have HNE : Hid (N4 = getN ((l.drop J).take 4) G) := Lib.hid (by rw [← h5]; exact HNL.out)
    clear h5 HNL eL bNL
    obtain ⟨KD, hKD⟩ : ∃ K, K = kindP T := ⟨_, rfl⟩
    obtain ⟨TT, hTT⟩ : ∃ x, x = if KD = 7 then T else 0 := ⟨_, rfl⟩
    obtain ⟨D, hD⟩ : ∃ D, D = (l.drop 8).take (J - 8) := ⟨_, rfl⟩
    obtain ⟨O, hO⟩ : ∃ O, O = openP KD T D G := ⟨_, rfl⟩
    have hDe : (l.take J).drop 8 = D := by rw [hD, List.drop_take]
    have hj8 : 8 ≤ J := by omega
    have HOPN : Hid (∀ ad n c w, Bs w ad n c D → n ≤ 1048576 → Calls Try.prog 59 #[.agg #[.int .i64 KD, .bool false, .int .u32 ((TT : Nat) : Int), .int .i64 0, .int .u32 0, .int .i64 0, .int .u64 0, .int .u32 0, .slice none 0 0, .slice none 0 0, .slice none 0 0], .slice ad n c, .bool G] w (OpenR ad n c D O w)) := Lib.hid (fun ad n c w hs hn => by
      rw [hO, hTT, hKD]
      exact open_any T ad n c D G w hs hn)
    have HK : Hid (∀ w, Calls Try.prog 58 #[.int .u32 (T : Int)] w fun e w' => e = .returned (.int .i64 KD) ∧ Below w.heap.size w w') := Lib.hid (fun w => by rw [hKD]; exact kindOf_any T w)
    rw [hDe, ← hKD, ← hO] at HQ
    have HTT := Lib.hid hTT
    have HORL : Hid (∀ x r, O = some (x, r) → r.length ≤ 1000000000) := Lib.hid (fun x r h => by
      have h1 := open_rest (hO.symm.trans h)
      rw [hD, List.length_take] at h1
      omega)
    have HD := Lib.hid hD.symm
    clear hKD hTT hD hO hDe
    go_upto_if 77 with (first
      | ((with_reducible refine sl 37 ?_); go_must (refine wpL_sliceG elB rfl (.tmp 36) (some (.const (.int .i64 4))) (some (.const (.int .i64 8))) rfl rfl 4 8 (.inr ⟨.i64, rfl⟩) (.inr ⟨.i64, rfl⟩) (by omega) (by omega) 4 (c - 4) rfl rfl ?_); intro ad37 had; have HA37 := Lib.hid (Bs.partG HS.out 4 8 4 (c - 4) (by omega) (by omega) rfl rfl ad37 had ((l.drop 4).take 4) rfl); clear had; simp only [PT])
      | (go_at_call 57; (with_reducible show Calls _ _ #[Value.slice ad37 _ _, _] _ _); go_must (refine (get_any ad37 4 (c - 4) _ G _ (HA37.out.below (HB.out.trans (Below.mono bup HB.out.size)))).mono ?_); intro e w5 hr; unfold RetN at hr; rw [← HN4.out] at hr; obtain ⟨rfl, hb__⟩ := hr; have hE__ := cU HB bup hb__; replace HB := ck HB hE__; replace HG4 := ck HG4 hE__; clear hE__; clear hb__)
      | ((with_reducible refine sl 65 ?_); go_must (refine wpL_sliceG elB rfl (.tmp 61) (some (.tmp 63)) (some (.tmp 64)) rfl rfl J N4 (.inr ⟨.i64, rfl⟩) (.inr ⟨.i64, rfl⟩) (by omega) (by omega) 4 (c - J) HNJ.out rfl ?_); intro ad65 had; have HA65 := Lib.hid (Bs.partG HS.out J N4 4 (c - J) (by omega) (by omega) HNJ.out rfl ad65 had ((l.drop J).take 4) rfl); clear had; simp only [PT])
      | (go_at_call 57; (with_reducible show Calls _ _ #[Value.slice ad65 _ _, _] _ _); go_must (refine (get_any ad65 4 (c - J) _ G _ (HA65.out.below (HB.out.trans (Below.mono bup HB.out.size)))).mono ?_); intro e w6 hr; unfold RetN at hr; rw [← HNE.out] at hr; obtain ⟨rfl, hb__⟩ := hr; have hE__ := cU HB bup hb__; replace HB := ck HB hE__; replace HG4 := ck HG4 hE__; clear hE__; clear hb__)
      | (go_at_call 58; go_must (refine (HK.out _).mono ?_); intro e w7 hr; obtain ⟨rfl, hb__⟩ := hr; have hE__ := cU HB bup hb__; replace HB := ck HB hE__; replace HG4 := ck HG4 hE__; clear hE__; clear hb__)
      | ((with_reducible refine sl 9 ?_); go_must (refine wpL_allocG rfl 27 rfl (.agg #[.int .i64 0, .bool false, .int .u32 0, .int .i64 0, .int .u32 0, .int .i64 0, .int .u64 0, .int .u32 0, .slice none 0 0, .slice none 0 0, .slice none 0 0]) #[.int .i64 0, .bool false, .int .u32 0, .int .i64 0, .int .u32 0, .int .i64 0, .int .u64 0, .int .u32 0, .slice none 0 0, .slice none 0 0, .slice none 0 0] 11 (by kernel_rfl) rfl ?_); intro w8 g9 he__ le_g9 lt_g9 hg__ hb__; have h49 : g4 < g9 := Nat.lt_of_lt_of_le (lt_of_block (by exact HG4.out)) le_g9; have HG9 := Lib.hid hg__; have hE__ := cU HB bup hb__; replace HB := ck HB hE__; replace HG4 := ck HG4 hE__; clear hE__; clear hg__ hb__ he__; simp only [PT])
      | ((with_reducible show wpList _ _ _ (⟨none, .store _ (.tmp 9) (.tmp 74), _, _, _, _⟩ :: _) _ _); go_must (refine wpL_storeRow rfl 27 (.tmp 9) (.tmp 74) rfl g9 #[.int .i64 KD, .bool false, .int .u32 0, .int .i64 0, .int .u32 0, .int .i64 0, .int .u64 0, .int .u32 0, .slice none 0 0, .slice none 0 0, .slice none 0 0] rfl rfl HG9.out HBI.out rfl (all1 _ rfl) ?_); intro w9 hs__ hr__; replace HB := cg HB bup hr__ (by omega); replace HG4 := cg HG4 bup hr__ (by omega); clear HG9; have HG9 := Lib.hid hs__; clear hs__ hr__; simp only [PT])
      | ((with_reducible refine sl 76 ?_); go_must (refine wpL_loadF rfl 3 (.tmp 75) rfl g9 0 rfl (.int .i64 KD) HG9.out rfl Try.underlying3 rfl ?_); simp only [PT]))
    go_cut [] from 14 (fun wx => wx.heap[g9]? = some (.cells #[.int .i64 KD, .bool false, .int .u32 ((TT : Nat) : Int), .int .i64 0, .int .u32 0, .int .i64 0, .int .u64 0, .int .u32 0, .slice none 0 0, .slice none 0 0, .slice none 0 0] 27 (0, 0)) ∧ wx.heap[g4]? = some (.cells #[.int .i64 0, .bool false, .int .u32 0, .int .i64 0, .int .u32 0, .int .i64 0, .int .u64 0, .int .u32 0, .slice none 0 0, .slice none 0 0, .slice none 0 0] 27 (0, 0)) ∧ Below w.heap.size w wx)
    case first =>
      by_cases hk7 : KD = 7
      · have HK7 := Lib.hid hk7
        go_wp2_with (first
          | ((with_reducible show wpList _ _ _ (⟨none, .store _ (.tmp 79) (.tmp 78), _, _, _, _⟩ :: _) _ _); go_must (refine wpL_storeF rfl 22 (.tmp 79) (.tmp 78) rfl g9 2 (.int .u32 (T : Int)) rfl rfl rfl HG9.out (by simp) (by kernel_rfl) #[.int .i64 KD, .bool false, .int .u32 (T : Int), .int .i64 0, .int .u32 0, .int .i64 0, .int .u64 0, .int .u32 0, .slice none 0 0, .slice none 0 0, .slice none 0 0] rfl ?_); intro w10 hs__ hr__; replace HB := cg HB bup hr__ (by omega); replace HG4 := cg HG4 bup hr__ (by omega); clear HG9; have HG9 := Lib.hid hs__; clear hs__ hr__; simp only [PT]))
        go_meet
        case rel => exact ⟨by rw [HTT.out, if_pos HK7.out]; exact HG9.out, HG4.out, HB.out⟩
      · have HK7 := Lib.hid hk7
        go_wp2_with fail
        go_meet
        case rel => exact ⟨by rw [HTT.out, if_neg HK7.out]; exact HG9.out, HG4.out, HB.out⟩
    case rest =>
      obtain ⟨hg9, hg4, hb4⟩ := hcut
      clear HB HG4 HG9
      have HB := Lib.hid hb4
      have HG4 := Lib.hid hg4
      have HG9 := Lib.hid hg9
      clear hg9 hg4 hb4
      cases O with
      | none =>
        have HO : Hid (getP big l = (noneB, 0, 3)) := Lib.hid HQ.out
        clear HQ HN
        go_wp2_with fail
        refine wp_region_held_drew (S := fun u => True) (by kernel_rfl) ?_ (fun hHeld => ?_)
        focus (exact trivial)
        refine tk 1 (oi := ⟨some 82, _, _, _, _, _⟩) (v := ?_) rfl (by kernel_rfl) (.inl ⟨by rfl, ?_⟩) hHeld ?_; rotate_left; focus (intro w hSw; (try dsimp only at hSw); go_simp; try with_reducible rfl)
        simp only [PT]
        refine tk 2 (oi := ⟨some 83, _, _, _, _, _⟩) (v := ?_) rfl (by kernel_rfl) (.inl ⟨by rfl, ?_⟩) hHeld ?_; rotate_left; focus (intro w hSw; (try dsimp only at hSw); go_simp; try with_reducible rfl)
        simp only [PT]
        refine' tk 3 (oi := ⟨some 84, _, _, _, _, _⟩) (v := (.int .i64 (J : Int))) rfl (by kernel_rfl) (.inl ⟨by rfl, ?_⟩) hHeld ?_; focus (intro w hSw; (try dsimp only at hSw); go_simp; first | done | rfl | (simp [*]; done) | (simp [*]; omega))
        simp only [PT]
        refine' tk 4 (oi := ⟨some 85, _, _, _, _, _⟩) (v := _) rfl (by kernel_rfl) (yields_slice elB rfl (.tmp 82) (some (.const (.int .i64 8))) (some (.tmp 84)) rfl rfl 8 J (.inr ⟨.i64, rfl⟩) (.inr ⟨.i64, rfl⟩) hj8 (by omega)) hHeld ?_
        simp only [PT]
        refine tk 5 (oi := ⟨some 86, _, _, _, _, _⟩) (v := ?_) rfl (by kernel_rfl) (.inl ⟨by rfl, ?_⟩) hHeld ?_; rotate_left; focus (intro w hSw; (try dsimp only at hSw); go_simp; try with_reducible rfl)
        simp only [PT]
        refine wpAnyH_ready (rs := [0]) (by kernel_rfl) (by simp) ?_
        refine (AllReadyH.cons (o := ⟨some 81, _, _, _, _, _⟩) rfl (fun K hK => ?_) AllReadyH.nil)
        (go_must (refine step_loadR rfl 27 (.tmp 9) rfl g9 0 rfl [.int .i64 KD, .bool false, .int .u32 ((TT : Nat) : Int), .int .i64 0, .int .u32 0, .int .i64 0, .int .u64 0, .int .u32 0, .slice none 0 0, .slice none 0 0, .slice none 0 0] _ (by exact range_block HG9.out) Try.underlying27 rfl HBI.out ?_))
        refine hK.out _ _ ?_ (fun hHeld => ?_)
        focus (exact trivial)
        clear hK K
        try simp only [PT]
        refine wpAnyH_ready (rs := [6]) (by kernel_rfl) (by simp) ?_
        refine (AllReadyH.cons (o := ⟨some 87, _, _, _, _, _⟩) rfl (fun K hK => ?_) AllReadyH.nil)
        focus (go_simp; have HAB : ∀ w0, Bs w0 ad n c l → Bs w0 (subAd ad c 8 1) (J - 8) (c - 8) D := fun w0 h0 => (by rw [← HD.out]; exact Bs.part h0 8 J hj8 (by omega)); go_must (refine (HOPN.out _ (J - 8) (c - 8) _ (HAB _ (HS.out.below (HB.out.trans (Below.mono bup HB.out.size)))) (by omega)).mono ?_); intro e w11 hr; obtain ⟨v, rad, rn, rc, ok, rfl, hok, hgood, hb__⟩ := hr; have hok2 : ok = false := hok; subst hok2; have hE__ := cU HB bup hb__; replace HB := ck HB hE__; replace HG4 := ck HG4 hE__; replace HG9 := ck HG9 hE__; clear hE__; clear hb__ hok hgood; go_wp2_with fail)
        refine hK.out _ _ ?_ (fun hHeld => ?_)
        focus (exact trivial)
        clear hK K
        try simp only [PT]
        refine tk 7 (oi := ⟨some 80, _, _, _, _, _⟩) (v := ?_) rfl (by kernel_rfl) (.inl ⟨by rfl, ?_⟩) hHeld ?_; rotate_left; focus (intro w hSw; (try dsimp only at hSw); go_simp; try with_reducible rfl)
        simp only [PT]
        refine tk 8 (oi := ⟨some 88, _, _, _, _, _⟩) (v := ?_) rfl (by kernel_rfl) (.inl ⟨by rfl, ?_⟩) hHeld ?_; rotate_left; focus (intro w hSw; (try dsimp only at hSw); go_simp; try with_reducible rfl)
        simp only [PT]
        refine tk 9 (oi := ⟨some 89, _, _, _, _, _⟩) (v := ?_) rfl (by kernel_rfl) (.inl ⟨by rfl, ?_⟩) hHeld ?_; rotate_left; focus (intro w hSw; (try dsimp only at hSw); go_simp; try with_reducible rfl)
        simp only [PT]
        refine tk 10 (oi := ⟨some 90, _, _, _, _, _⟩) (v := ?_) rfl (by kernel_rfl) (.inl ⟨by rfl, ?_⟩) hHeld ?_; rotate_left; focus (intro w hSw; (try dsimp only at hSw); go_simp; try with_reducible rfl)
        simp only [PT]
        refine wpAnyH_ready (rs := [11]) (by kernel_rfl) (by simp) ?_
        refine (AllReadyH.cons (o := ⟨none, _, _, _, _, _⟩) rfl (fun K hK => ?_) AllReadyH.nil)
        (go_must (refine step_storeR rfl 27 (.tmp 9) (.tmp 88) rfl g9 v.cells.toArray rfl rfl HG9.out HBI.out rfl (bcells_all v) ?_); intro w12 hs__ hr__; replace HB := cg HB bup hr__ (by omega); replace HG4 := cg HG4 bup hr__ (by omega); clear HG9; have HG9 := Lib.hid hs__; clear hs__ hr__)
        refine hK.out _ _ ?_ (fun hHeld => ?_)
        focus (exact trivial)
        clear hK K
        try simp only [PT]
        refine tk 12 (oi := ⟨some 10, _, _, _, _, _⟩) (v := ?_) rfl (by kernel_rfl) (.inl ⟨by rfl, ?_⟩) hHeld ?_; rotate_left; focus (intro w hSw; (try dsimp only at hSw); go_simp; try with_reducible rfl)
        simp only [PT]
        refine tk 13 (oi := ⟨some 11, _, _, _, _, _⟩) (v := ?_) rfl (by kernel_rfl) (.inl ⟨by rfl, ?_⟩) hHeld ?_; rotate_left; focus (intro w hSw; (try dsimp only at hSw); go_simp; try with_reducible rfl)
        simp only [PT]
        refine wpAnyH_done (by kernel_rfl) ?_ _
        all_goals
          go_wp2_with (first
            | ((with_reducible show wpList _ _ _ (⟨none, .store _ (.tmp 4) (.tmp 93), _, _, _, _⟩ :: _) _ _); go_must (refine wpL_storeRow rfl 27 (.tmp 4) (.tmp 93) rfl g4 #[.int .i64 0, .bool false, .int .u32 0, .int .i64 0, .int .u32 0, .int .i64 0, .int .u64 0, .int .u32 0, .slice none 0 0, .slice none 0 0, .slice none 0 0] rfl rfl HG4.out HBI.out rfl (all1 _ rfl) ?_); intro w99 hs__ hr__; replace HB := cg HB bup hr__ (by omega); clear HG4; have HG4 := Lib.hid hs__; clear hs__ hr__; simp only [PT]))
          (try simp only [Exit.inBlock, Exit.then, Exit.noGoto_ret])
          refine bodyPost_cell1x (cs := [.int .i64 0, .bool false, .int .u32 0, .int .i64 0, .int .u32 0, .int .i64 0, .int .u64 0, .int .u32 0, .slice none 0 0, .slice none 0 0, .slice none 0 0]) rfl rfl (range_block HG4.out) Try.underlying27 rfl HBI.out rfl ?_
          exact ⟨noneV, by rw [HO.out]; rfl, by rw [HO.out]; rfl, ⟨own_nil _ _ _ _, OwnOps.nil _ _ _, OwnOps.nil _ _ _⟩, HB.out⟩
      | some p =>
        obtain ⟨x, r⟩ := p
        go_wp2_with fail
        refine wp_region_held_drew (S := fun u => True) (by kernel_rfl) ?_ (fun hHeld => ?_)
        focus (exact trivial)
        refine tk 1 (oi := ⟨some 82, _, _, _, _, _⟩) (v := ?_) rfl (by kernel_rfl) (.inl ⟨by rfl, ?_⟩) hHeld ?_; rotate_left; focus (intro w hSw; (try dsimp only at hSw); go_simp; try with_reducible rfl)
        simp only [PT]
        refine tk 2 (oi := ⟨some 83, _, _, _, _, _⟩) (v := ?_) rfl (by kernel_rfl) (.inl ⟨by rfl, ?_⟩) hHeld ?_; rotate_left; focus (intro w hSw; (try dsimp only at hSw); go_simp; try with_reducible rfl)
        simp only [PT]
        refine' tk 3 (oi := ⟨some 84, _, _, _, _, _⟩) (v := (.int .i64 (J : Int))) rfl (by kernel_rfl) (.inl ⟨by rfl, ?_⟩) hHeld ?_; focus (intro w hSw; (try dsimp only at hSw); go_simp; first | done | rfl | (simp [*]; done) | (simp [*]; omega))
        simp only [PT]
        refine' tk 4 (oi := ⟨some 85, _, _, _, _, _⟩) (v := _) rfl (by kernel_rfl) (yields_slice elB rfl (.tmp 82) (some (.const (.int .i64 8))) (some (.tmp 84)) rfl rfl 8 J (.inr ⟨.i64, rfl⟩) (.inr ⟨.i64, rfl⟩) hj8 (by omega)) hHeld ?_
        simp only [PT]
        refine tk 5 (oi := ⟨some 86, _, _, _, _, _⟩) (v := ?_) rfl (by kernel_rfl) (.inl ⟨by rfl, ?_⟩) hHeld ?_; rotate_left; focus (intro w hSw; (try dsimp only at hSw); go_simp; try with_reducible rfl)
        simp only [PT]
        refine wpAnyH_ready (rs := [0]) (by kernel_rfl) (by simp) ?_
        refine (AllReadyH.cons (o := ⟨some 81, _, _, _, _, _⟩) rfl (fun K hK => ?_) AllReadyH.nil)
        (go_must (refine step_loadR rfl 27 (.tmp 9) rfl g9 0 rfl [.int .i64 KD, .bool false, .int .u32 ((TT : Nat) : Int), .int .i64 0, .int .u32 0, .int .i64 0, .int .u64 0, .int .u32 0, .slice none 0 0, .slice none 0 0, .slice none 0 0] _ (by exact range_block HG9.out) Try.underlying27 rfl HBI.out ?_))
        refine hK.out _ _ ?_ (fun hHeld => ?_)
        focus (exact trivial)
        clear hK K
        try simp only [PT]
        refine wpAnyH_ready (rs := [6]) (by kernel_rfl) (by simp) ?_
        refine (AllReadyH.cons (o := ⟨some 87, _, _, _, _, _⟩) rfl (fun K hK => ?_) AllReadyH.nil)
        focus (go_simp; have HAB : ∀ w0, Bs w0 ad n c l → Bs w0 (subAd ad c 8 1) (J - 8) (c - 8) D := fun w0 h0 => (by rw [← HD.out]; exact Bs.part h0 8 J hj8 (by omega)); go_must (refine (HOPN.out _ (J - 8) (c - 8) _ (HAB _ (HS.out.below (HB.out.trans (Below.mono bup HB.out.size)))) (by omega)).mono ?_); intro e w11 hr; obtain ⟨v, rad, rn, rc, ok, rfl, hok, hgood, hb__⟩ := hr; have hok2 : ok = true := hok; subst hok2; obtain ⟨hval, hrb, hown⟩ := hgood x r rfl; have HVAL := Lib.hid hval; have HX := Lib.hid (hown.base (base' := g9 + 1) (lt_of_block (by exact HG9.out))); have HR := Lib.hid (hrb _ (HAB _ HS.out)); have hrn : rn ≤ 1000000000 := (by have h1 := HORL.out x r rfl; have h2 := HR.out.len; omega); have hE__ := cU HB bup hb__; replace HB := ck HB hE__; replace HG4 := ck HG4 hE__; replace HG9 := ck HG9 hE__; clear hE__; clear hb__ hok hgood hval hrb hown; go_wp2_with fail)
        refine hK.out _ _ ?_ (fun hHeld => ?_)
        focus (exact trivial)
        clear hK K
        try simp only [PT]
        refine tk 7 (oi := ⟨some 80, _, _, _, _, _⟩) (v := ?_) rfl (by kernel_rfl) (.inl ⟨by rfl, ?_⟩) hHeld ?_; rotate_left; focus (intro w hSw; (try dsimp only at hSw); go_simp; try with_reducible rfl)
        simp only [PT]
        refine tk 8 (oi := ⟨some 88, _, _, _, _, _⟩) (v := ?_) rfl (by kernel_rfl) (.inl ⟨by rfl, ?_⟩) hHeld ?_; rotate_left; focus (intro w hSw; (try dsimp only at hSw); go_simp; try with_reducible rfl)
        simp only [PT]
        refine tk 9 (oi := ⟨some 89, _, _, _, _, _⟩) (v := ?_) rfl (by kernel_rfl) (.inl ⟨by rfl, ?_⟩) hHeld ?_; rotate_left; focus (intro w hSw; (try dsimp only at hSw); go_simp; try with_reducible rfl)
        simp only [PT]
        refine tk 10 (oi := ⟨some 90, _, _, _, _, _⟩) (v := ?_) rfl (by kernel_rfl) (.inl ⟨by rfl, ?_⟩) hHeld ?_; rotate_left; focus (intro w hSw; (try dsimp only at hSw); go_simp; try with_reducible rfl)
        simp only [PT]
        refine wpAnyH_ready (rs := [11]) (by kernel_rfl) (by simp) ?_
        refine (AllReadyH.cons (o := ⟨none, _, _, _, _, _⟩) rfl (fun K hK => ?_) AllReadyH.nil)
        (go_must (refine step_storeR rfl 27 (.tmp 9) (.tmp 88) rfl g9 v.cells.toArray rfl rfl HG9.out HBI.out rfl (bcells_all v) ?_); intro w12 hs__ hr__; replace HB := cg HB bup hr__ (by omega); replace HG4 := cg HG4 bup hr__ (by omega); replace HX := cg HX bup hr__ (by omega); clear HG9; have HG9 := Lib.hid hs__; clear hs__ hr__)
        refine hK.out _ _ ?_ (fun hHeld => ?_)
        focus (exact trivial)
        clear hK K
        try simp only [PT]
        refine tk 12 (oi := ⟨some 10, _, _, _, _, _⟩) (v := ?_) rfl (by kernel_rfl) (.inl ⟨by rfl, ?_⟩) hHeld ?_; rotate_left; focus (intro w hSw; (try dsimp only at hSw); go_simp; try with_reducible rfl)
        simp only [PT]
        refine tk 13 (oi := ⟨some 11, _, _, _, _, _⟩) (v := ?_) rfl (by kernel_rfl) (.inl ⟨by rfl, ?_⟩) hHeld ?_; rotate_left; focus (intro w hSw; (try dsimp only at hSw); go_simp; try with_reducible rfl)
        simp only [PT]
        refine wpAnyH_done (by kernel_rfl) ?_ _
        all_goals
          obtain ⟨X, hX⟩ : ∃ X, X = readO G r := ⟨_, rfl⟩
          obtain ⟨X1, X3⟩ := X
          have HXX := Lib.hid hX.symm
          have HQ2 : Hid (getP big l = if X3 = (0, 0) then ({ x with opts := X1 }, N4, 0) else (noneB, 0, 3)) := Lib.hid (by rw [HQ.out]; unfold endP; simp only [← hX])
          clear hX HN
          by_cases hz : X3 = (0, 0)
          rotate_left
          · have HO : Hid (getP big l = (noneB, 0, 3)) := Lib.hid (by rw [HQ2.out, if_neg hz])
            have HB1 := Lib.hid (show true = !decide (X3 = (0, 0)) by simp [hz])
            clear hz HQ HQ2
            go_wp2_with (first
              | (go_at_call 60; go_must (refine (read_any rad rn rc r G _ (HR.out.below (HB.out.trans (Below.mono bup HB.out.size))) (by omega)).mono ?_); intro e w13 hr; rw [HXX.out] at hr; dsimp only at hr; obtain ⟨ad5, n5, c5, os, rfl, how, hvs, hb__⟩ := hr; have HW := Lib.hid (how.base (base' := g9 + 1) (lt_of_block (by exact HG9.out))); have HVS := Lib.hid hvs; have hE__ := cU HB bup hb__; replace HB := ck HB hE__; replace HG4 := ck HG4 hE__; replace HG9 := ck HG9 hE__; replace HX := ck HX hE__; clear hE__; clear hb__ how hvs)
              | ((with_reducible refine sl 13 ?_); go_must (refine wpL_allocG rfl 49 rfl (.agg #[.int .i64 0, .int .i64 0]) #[.int .i64 0, .int .i64 0] 2 (by kernel_rfl) rfl ?_); intro w6 g13 he__ le_g13 lt_g13 hg__ hb__; have HG13 := Lib.hid hg__; have le13 : w13.heap.size ≤ g13 := le_g13; have HBA := Lib.hid (show Below w13.heap.size w13 w6 from Below.trans bup hb__); have sz5 := lt_of_block HG9.out; have hE__ := cU HB bup hb__; replace HB := ck HB hE__; replace HG4 := ck HG4 hE__; replace HG9 := ck HG9 hE__; clear hE__; clear hg__ hb__ he__; simp only [PT])
              | ((with_reducible show wpList _ _ _ (⟨none, .store _ (.tmp 13) (.tmp 99), _, _, _, _⟩ :: _) _ _); go_must (refine wpL_storeRow rfl 49 (.tmp 13) (.tmp 99) rfl g13 (spotC X3).toArray rfl rfl HG13.out HI.out rfl (all1 (spotC X3) rfl) ?_); intro w16 hs__ hr__; replace HB := cg HB bup hr__ (by omega); replace HG4 := cg HG4 bup hr__ (by omega); replace HG9 := cg HG9 bup hr__ (by omega); replace HBA := cg HBA bup hr__ (by omega); replace HW := cW1 HW HBA.out; replace HX := cX1 HX HBA.out; clear HG13; have HG13 := Lib.hid hs__; clear hs__ hr__; simp only [PT])
              | ((with_reducible refine sl 100 ?_); go_must (refine wpL_load rfl 49 (.tmp 13) rfl g13 0 rfl (spotC X3) _ (range_block HG13.out) Try.underlying49 rfl HI.out ?_); simp only [PT])
              | ((with_reducible refine sl 102 ?_); go_must (refine wpL_neS X3 (0, 0) true HB1.out rfl (.tmp 100) (.tmp 101) rfl rfl rfl ?_); simp only [PT])
              | ((with_reducible show wpList _ _ _ (⟨none, .store _ (.tmp 4) (.tmp 103), _, _, _, _⟩ :: _) _ _); go_must (refine wpL_storeRow rfl 27 (.tmp 4) (.tmp 103) rfl g4 #[.int .i64 0, .bool false, .int .u32 0, .int .i64 0, .int .u32 0, .int .i64 0, .int .u64 0, .int .u32 0, .slice none 0 0, .slice none 0 0, .slice none 0 0] rfl rfl HG4.out HBI.out rfl (all1 _ rfl) ?_); intro w99 hs__ hr__; replace HB := cg HB bup hr__ (by omega); clear HG4; have HG4 := Lib.hid hs__; clear hs__ hr__; simp only [PT]))
            (try simp only [Exit.inBlock, Exit.then, Exit.noGoto_ret])
            refine bodyPost_cell1x (cs := [.int .i64 0, .bool false, .int .u32 0, .int .i64 0, .int .u32 0, .int .i64 0, .int .u64 0, .int .u32 0, .slice none 0 0, .slice none 0 0, .slice none 0 0]) rfl rfl (range_block HG4.out) Try.underlying27 rfl HBI.out rfl ?_
            exact ⟨noneV, by rw [HO.out]; rfl, by rw [HO.out]; rfl, ⟨own_nil _ _ _ _, OwnOps.nil _ _ _, OwnOps.nil _ _ _⟩, HB.out⟩
          · have HO : Hid (getP big l = ({ x with opts := X1 }, N4, 0)) := Lib.hid (by rw [HQ2.out, if_pos hz])
            clear HQ HQ2
            subst hz
            go_wp2_with (first
              | (go_at_call 60; go_must (refine (read_any rad rn rc r G _ (HR.out.below (HB.out.trans (Below.mono bup HB.out.size))) (by omega)).mono ?_); intro e w13 hr; rw [HXX.out] at hr; dsimp only at hr; obtain ⟨ad5, n5, c5, os, rfl, how, hvs, hb__⟩ := hr; have HW := Lib.hid (how.base (base' := g9 + 1) (lt_of_block (by exact HG9.out))); have HVS := Lib.hid hvs; have hE__ := cU HB bup hb__; replace HB := ck HB hE__; replace HG4 := ck HG4 hE__; replace HG9 := ck HG9 hE__; replace HX := ck HX hE__; clear hE__; clear hb__ how hvs)
              | ((with_reducible refine sl 13 ?_); go_must (refine wpL_allocG rfl 49 rfl (.agg #[.int .i64 0, .int .i64 0]) #[.int .i64 0, .int .i64 0] 2 (by kernel_rfl) rfl ?_); intro w6 g13 he__ le_g13 lt_g13 hg__ hb__; have HG13 := Lib.hid hg__; have le13 : w13.heap.size ≤ g13 := le_g13; have HBA := Lib.hid (show Below w13.heap.size w13 w6 from Below.trans bup hb__); have sz5 := lt_of_block HG9.out; have hE__ := cU HB bup hb__; replace HB := ck HB hE__; replace HG4 := ck HG4 hE__; replace HG9 := ck HG9 hE__; clear hE__; clear hg__ hb__ he__; simp only [PT])
              | ((with_reducible show wpList _ _ _ (⟨none, .store _ (.tmp 13) (.tmp 99), _, _, _, _⟩ :: _) _ _); go_must (refine wpL_storeRow rfl 49 (.tmp 13) (.tmp 99) rfl g13 (spotC (0, 0)).toArray rfl rfl HG13.out HI.out rfl (all1 (spotC (0, 0)) rfl) ?_); intro w16 hs__ hr__; replace HB := cg HB bup hr__ (by omega); replace HG4 := cg HG4 bup hr__ (by omega); replace HG9 := cg HG9 bup hr__ (by omega); replace HBA := cg HBA bup hr__ (by omega); replace HW := cW1 HW HBA.out; replace HX := cX1 HX HBA.out; clear HG13; have HG13 := Lib.hid hs__; clear hs__ hr__; simp only [PT])
              | ((with_reducible refine sl 100 ?_); go_must (refine wpL_load rfl 49 (.tmp 13) rfl g13 0 rfl (spotC (0, 0)) _ (range_block HG13.out) Try.underlying49 rfl HI.out ?_); simp only [PT])
              | ((with_reducible refine sl 102 ?_); go_must (refine wpL_neS (0, 0) (0, 0) false (by rfl) rfl (.tmp 100) (.tmp 101) rfl rfl rfl ?_); simp only [PT])
              | ((with_reducible show wpList _ _ _ (⟨none, .store _ (.tmp 105) (.tmp 104), _, _, _, _⟩ :: _) _ _); go_must (refine wpL_storeF rfl 25 (.tmp 105) (.tmp 104) rfl g9 10 (.slice ad5 n5 c5) rfl rfl rfl HG9.out (show (10 : Nat) < 11 by decide) (by kernel_rfl) ({ v with oad := ad5, on := n5, oc := c5, os := os } : BlkV).cells.toArray rfl ?_); intro w14 hs__ hr__; replace HB := cg HB bup hr__ (by omega); replace HG4 := cg HG4 bup hr__ (by omega); replace HX := cg HX bup hr__ (by omega); replace HW := cg HW bup hr__ (by omega); clear HG9; have HG9 := Lib.hid hs__; clear hs__ hr__; simp only [PT])
              | ((with_reducible refine sl 106 ?_); go_must (refine wpL_load rfl 27 (.tmp 9) rfl g9 0 rfl ({ v with oad := ad5, on := n5, oc := c5, os := os } : BlkV).cells _ (range_block HG9.out) Try.underlying27 rfl HBI.out ?_); simp only [PT])
              | ((with_reducible show wpList _ _ _ (⟨none, .store _ (.tmp 4) (.tmp 106), _, _, _, _⟩ :: _) _ _); go_must (refine wpL_storeRow rfl 27 (.tmp 4) (.tmp 106) rfl g4 ({ v with oad := ad5, on := n5, oc := c5, os := os } : BlkV).cells.toArray rfl rfl HG4.out HBI.out rfl (bcells_all _) ?_); intro w15 hs__ hr__; replace HB := cg HB bup hr__ (by omega); replace HX := cg HX bup hr__ (by omega); replace HW := cg HW bup hr__ (by omega); clear HG4; have HG4 := Lib.hid hs__; clear hs__ hr__; simp only [PT]))
            (try simp only [Exit.inBlock, Exit.then, Exit.noGoto_ret])
            refine bodyPost_cell1x (cs := ({ v with oad := ad5, on := n5, oc := c5, os := os } : BlkV).cells) rfl rfl (range_block HG4.out) Try.underlying27 rfl HBI.out rfl ?_
            refine ⟨{ v with oad := ad5, on := n5, oc := c5, os := os }, by rw [HO.out]; rfl, ?_, ⟨own_base HX.out.1 (by omega), HX.out.2.1.base (by omega), HW.out.base (by omega)⟩, HB.out⟩
            rw [HO.out, ← HVS.out, ← HVAL.out]
            rfl
end Go.Proofs.Ytmfplinbbcoahaa
/-
  Laws of bytes that a call lays, in lists: appends, literals.
-/
namespace Go.Proofs.Ytmfplinbbcoahaa
open Go.RowKit Go.Sort
set_option linter.unusedVariables false

theorem cEb {v w a w' : World} (hE : Hid (Below v.heap.size v w)) (hu : Below w.heap.size w a) (hb : Below v.heap.size a w') : Hid (Below v.heap.size v w') :=
  Lib.hid ((hE.out.trans (hu.mono hE.out.size)).trans hb)
/-- an append in lists -/
theorem wpL_appL {P : Program} {w : World} {ops : Array Oper} {rest : List Oper} {o : Oper} {a : Act} {Q : Exit → Act → World → Prop} {t e : TypeId} {z : Value} (el : Elem P t e 1 1 z)
    (hgd : Region.wanted o (yielded ops a.tmps) = true) (s x : Operand) (ho : o.op = .call { callee := .builtin .append, args := #[s, x], argTypes := #[t, t] })
    (base : Nat) {ad : Option Addr} {c : Nat} {L : List UInt8} (hs : a.eval s = .slice ad L.length c) (hown : w.ownsRow base e 1 (.slice ad L.length c) L.length (BV L))
    {ad2 : Option Addr} {m c2 : Nat} {M : List UInt8} (hx : a.eval x = .slice ad2 m c2) (hsl : Bs w ad2 m c2 M) (R : List UInt8) (hR : L ++ M = R)
    (hb : R.length ≤ 140737488351232) (hbase : base ≤ w.heap.size)
    (h : ∀ ad' c' w', w'.ownsRow base e 1 (.slice ad' R.length c') R.length (BV R) → Below base w w' → wpList P ops Q rest (a.put o.dst (.slice ad' R.length c')) w') :
    wpList P ops Q (o :: rest) a w := by
  have hm := hsl.len
  subst hm
  have hl : R.length = L.length + M.length := by rw [← hR, List.length_append]
  refine wpL_append el hgd s x ho base hs hown hx hsl (BV_one _) (by unfold maxLen; omega) (by omega) hbase fun ad' c' w' ho' hg' hat _ => ?_
  have h1 := h ad' c' w'
  rw [hl, ← hR, BV_append] at h1
  exact h1 ho' ((Below.refl base w).grown hg' hbase (ownBlock_ge hown))
theorem step_appL {P : Program} {w : World} {ops : Array Oper} {o : Oper} {a : Act} {K : Act → World → Prop} {Q : Exit → Act → World → Prop} {E : Prop} {t e : TypeId} {z : Value} (el : Elem P t e 1 1 z)
    (hgd : Region.wanted o (yielded ops a.tmps) = true) (s x : Operand) (ho : o.op = .call { callee := .builtin .append, args := #[s, x], argTypes := #[t, t] })
    (base : Nat) {ad : Option Addr} {c : Nat} {L : List UInt8} (hs : a.eval s = .slice ad L.length c) (hown : w.ownsRow base e 1 (.slice ad L.length c) L.length (BV L))
    {ad2 : Option Addr} {m c2 : Nat} {M : List UInt8} (hx : a.eval x = .slice ad2 m c2) (hsl : Bs w ad2 m c2 M) (R : List UInt8) (hR : L ++ M = R)
    (hb : R.length ≤ 140737488351232) (hbase : base ≤ w.heap.size)
    (h : ∀ ad' c' w', w'.ownsRow base e 1 (.slice ad' R.length c') R.length (BV R) → Below base w w' → K (a.put o.dst (.slice ad' R.length c')) w') :
    if Region.wanted o (yielded ops a.tmps) = true then Oper.wp P o a w K Q else E := by
  have hm := hsl.len
  subst hm
  have hl : R.length = L.length + M.length := by rw [← hR, List.length_append]
  refine step_append el hgd s x ho base hs hown hx hsl (BV_one _) (by unfold maxLen; omega) (by omega) hbase fun ad' c' w' ho' hg' hat _ => ?_
  have h1 := h ad' c' w'
  rw [hl, ← hR, BV_append] at h1
  exact h1 ho' ((Below.refl base w).grown hg' hbase (ownBlock_ge hown))
/-- a literal of bytes -/
theorem wpL_lit {w : World} {ops : Array Oper} {rest : List Oper} {o : Oper} {a : Act} {Q : Exit → Act → World → Prop} (hgd : o.guard = none) (n : Nat) (parts : Array (Nat × Operand)) (ho : o.op = .buildSlice 24 n parts)
    (l : List UInt8) (hlen : n = l.length) (hpos : 0 < n) (hsmall : n ≤ 16777216)
    (hparts : parts.toList = ((l.map fun b => (b.toNat : Int)).zipIdx 0).map fun x => (x.2, Operand.const (Value.int .u8 x.1)))
    (h : ∀ w1 g, w.heap.size ≤ g → w1.ownsRow w.heap.size 5 1 (.slice (some ⟨g, 0, none⟩) l.length l.length) l.length (BV l) → Below w.heap.size w w1 → wpList Try.prog ops Q rest (a.put o.dst (.slice (some ⟨g, 0, none⟩) l.length l.length)) w1) :
    wpList Try.prog ops Q (o :: rest) a w := by
  subst hlen
  refine wpList_buildFlat hgd 24 5 l.length parts ho .u8 (l.map fun b => (b.toNat : Int)) Try.underlying24 (by kernel_rfl) (by kernel_rfl) (by simp) hpos (by omega) hparts ?_
  have e : (l.map fun b => (b.toNat : Int)).map (Value.int .u8) = BV l := by unfold BV; rw [List.map_map]; rfl
  rw [e]
  refine h _ _ (Nat.le_refl _) ?_ ((Below.refl _ _).alloc (Nat.le_refl _) _)
  have := World.ownsRow_lit (size := 1) (base := w.heap.size) (e := 5) w (BV l).toArray l.length (Nat.le_refl _) (by unfold maxLen; omega) (by simp [BV])
  simpa using this
/-- '[]byte{}' -/
theorem wpL_lit0 {w : World} {ops : Array Oper} {rest : List Oper} {o : Oper} {a : Act} {Q : Exit → Act → World → Prop} (hgd : o.guard = none) (ho : o.op = .buildSlice 24 0 #[])
    (h : ∀ w1 g, w.heap.size ≤ g → w1.ownsRow w.heap.size 5 1 (.slice (some ⟨g, 0, none⟩) ([] : List UInt8).length 0) ([] : List UInt8).length (BV []) → Below w.heap.size w w1 → wpList Try.prog ops Q rest (a.put o.dst (.slice (some ⟨g, 0, none⟩) 0 0)) w1) :
    wpList Try.prog ops Q (o :: rest) a w := by
  have hown := World.ownsRow_lit (size := 1) (base := w.heap.size) (e := 5) w #[] 0 (Nat.le_refl _) (by simp [maxLen]) rfl
  refine wpL_run (by simp [Region.wanted, hgd]) (v := .slice (some ⟨w.heap.size, 0, none⟩) 0 0) (w' := w.alloc (.cells #[] 5)) ?_ (h _ _ (Nat.le_refl _) hown ((Below.refl _ _).alloc (Nat.le_refl _) _))
  obtain ⟨i, hi, hz, hsize, hby⟩ := info_parts elB.info
  have e : (Array.range 0).map (fun _ : Nat => (default : Value)) = #[] := by simp
  simp [execOp, ho, Instr.buildSlice, run_underlying Try.underlying24, sizeOf, typeInfo, hi, newRow, Instr.fill, e]
end Go.Proofs.Ytmfplinbbcoahaa
