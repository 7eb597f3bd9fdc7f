/-
  Joined by program (merge.py): GetB, LawKit, PcWalk, PcRight, PcOwn, PcPut, PcFrK, Apart, PcRdK.
-/
import Derived.Deep.Cut
import Derived.Deep.Onto
import Derived.Test.YtmfplinbbcoahaaR2
import Derived.Test.YtmfplinbbcoahaaR4
import Derived.Test.YtmfplinbbcoahaaR5
import Derived.Test.YtmfplinbbcoahaaR7
import Derived.Test.YtmfplinbbcoahaaR8
set_option linter.unusedVariables false
set_option linter.unusedSimpArgs false
set_option maxRecDepth 100000
set_option maxHeartbeats 16000000
namespace Go.Proofs.Ytmfplinbbcoahaa
open Go.RowKit Go.Sort
theorem open_rest {k : Int} {t : Nat} {b r : List UInt8} {big : Bool} {x : PB} (h : openP k t b big = some (x, r)) : r.length ≤ b.length := by
  unfold openP at h
  repeat' split at h
  all_goals first
    | (cases h; done)
    | (simp only [Option.some.injEq, Prod.mk.injEq] at h
       obtain ⟨_, rfl⟩ := h
       simp [List.length_drop])
def GetR (p : PB × Nat × Int) (w : World) (e : Ending) (w' : World) : Prop :=
  ∃ v, e = .returned (.tuple #[.agg v.cells.toArray, .int .i64 ((p.2.1 : Nat) : Int), .int .i64 p.2.2]) ∧ v.val = p.1 ∧ OwnBlk w.heap.size w' v ∧ Below w.heap.size w w'
theorem get_short (ad : Option Addr) (n c : Nat) (l : List UInt8) (big : Bool) (w : World) (hs : Bs w ad n c l) (hn : n ≤ 1000000000) (h : n < 12) :
    Calls Try.prog 26 #[.slice ad n c, .bool big] w (GetR (getP big l) w) := by
  have HB := Hd (Below.refl w.heap.size w)
  have HS := Hd hs
  have HBI := Hd z0d
  have HI : Hid ((Try.prog.info? 49).map (·.size) = some 2) := Hd (by kernel_rfl)
  have hc := hs.le
  have HN := Hd hs.len
  clear hs
  have hi : (n : Int) < 12 := by omega
  have HO : Hid (getP big l = (noneB, 0, 2)) := Hd (by have := HN.out; unfold getP; rw [if_pos (by omega)])
  clear HN
  go_enter Try.func26, Try.ntmps26
  go_wp2_with (first
 | ((with_reducible refine sl 4 ?_); (refine z09 rfl 27 rfl (.agg #[.int .i64 0, .bool false, .int .u32 0, .int .i64 0, .int .u32 0, .int .i64 0, .int .u64 0, .int .u32 0, .slice none 0 0, .slice none 0 0, .slice none 0 0]) #[.int .i64 0, .bool false, .int .u32 0, .int .i64 0, .int .u32 0, .int .i64 0, .int .u64 0, .int .u32 0, .slice none 0 0, .slice none 0 0, .slice none 0 0] 11 (by kernel_rfl) rfl ?_); intro w1 g4 he__ le_g4 lt_g4 hg__ hb__; have HG4 := Hd hg__; have hE__ := cU HB bup hb__; replace HB := ck HB hE__; clear hE__; clear hg__ hb__ he__; simp only [PT])
 | ((with_reducible show wpList _ _ _ (⟨none, .store _ (.tmp 4) (.tmp 17), _, _, _, _⟩ :: _) _ _); (refine z02 rfl 27 (.tmp 4) (.tmp 17) rfl g4 #[.int .i64 0, .bool false, .int .u32 0, .int .i64 0, .int .u32 0, .int .i64 0, .int .u64 0, .int .u32 0, .slice none 0 0, .slice none 0 0, .slice none 0 0] rfl rfl HG4.out HBI.out rfl (all1 _ rfl) ?_); intro w99 hs__ hr__; replace HB := cg HB bup hr__ (by omega); clear HG4; have HG4 := Hd hs__; clear hs__ hr__; simp only [PT]))
  (try simp only [Exit.inBlock, Exit.then, Exit.noGoto_ret])
  refine z04 (cs := [.int .i64 0, .bool false, .int .u32 0, .int .i64 0, .int .u32 0, .int .i64 0, .int .u64 0, .int .u32 0, .slice none 0 0, .slice none 0 0, .slice none 0 0]) rfl rfl (z00 HG4.out) Try.underlying27 rfl HBI.out rfl ?_
  exact ⟨noneV, by rw [HO.out]; rfl, by rw [HO.out]; rfl, ⟨z1i _ _ _ _, OwnOps.nil _ _ _, OwnOps.nil _ _ _⟩, HB.out⟩
theorem get_long (ad : Option Addr) (n c : Nat) (l : List UInt8) (big : Bool) (w : World) (hs : Bs w ad n c l) (hn : n ≤ 1000000000) (h : 12 ≤ n) :
    Calls Try.prog 26 #[.slice ad n c, .bool big] w (GetR (getP big l) w) := by
  have HB := Hd (Below.refl w.heap.size w)
  have HS := Hd hs
  have HBI := Hd z0d
  have HI : Hid ((Try.prog.info? 49).map (·.size) = some 2) := Hd (by kernel_rfl)
  have hc := hs.le
  have HN := Hd hs.len
  clear hs
  have hi : ¬ (n : Int) < 12 := by omega
  obtain ⟨T, hT⟩ : ∃ x, x = getN ((l.drop 0).take 4) big := ⟨_, rfl⟩
  have bT : T < 4294967296 := by rw [hT]; exact w4_lt big l 0
  have HT := Hd hT
  clear hT
  obtain ⟨M1, hM1⟩ : ∃ x, x = getN ((l.drop 8).take 4) true := ⟨_, rfl⟩
  have bM1 : M1 < 4294967296 := by rw [hM1]; exact w4_lt true l 8
  have HM1 := Hd hM1
  clear hM1
  obtain ⟨M2, hM2⟩ : ∃ x, x = getN ((l.drop 8).take 4) false := ⟨_, rfl⟩
  have bM2 : M2 < 4294967296 := by rw [hM2]; exact w4_lt false l 8
  have HM2 := Hd hM2
  clear hM2
  have eT : IntKind.u32.wrap (T : Int) = (T : Int) := by rw [IntKind.wrap_u32]; omega
  have HQ : Hid (getP big l = if T = 168627466 then (if M1 = 439041101 then getQ true l T else if M2 = 439041101 then getQ false l T else (noneB, 0, 3)) else getQ big l T) := Hd (by
    have := HN.out
    unfold getP
    rw [if_neg (by omega), HT.out, HM1.out, HM2.out]
    rfl)
  go_enter Try.func26, Try.ntmps26
  go_upto_if 24 with (first
    | ((with_reducible refine sl 4 ?_); (refine z09 rfl 27 rfl (.agg #[.int .i64 0, .bool false, .int .u32 0, .int .i64 0, .int .u32 0, .int .i64 0, .int .u64 0, .int .u32 0, .slice none 0 0, .slice none 0 0, .slice none 0 0]) #[.int .i64 0, .bool false, .int .u32 0, .int .i64 0, .int .u32 0, .int .i64 0, .int .u64 0, .int .u32 0, .slice none 0 0, .slice none 0 0, .slice none 0 0] 11 (by kernel_rfl) rfl ?_); intro w1 g4 he__ le_g4 lt_g4 hg__ hb__; have HG4 := Hd hg__; have hE__ := cU HB bup hb__; replace HB := ck HB hE__; clear hE__; clear hg__ hb__ he__; simp only [PT])
    | ((with_reducible refine sl 19 ?_); (refine z0b elB rfl (.tmp 18) none (some (.const (.int .i64 4))) rfl rfl 0 4 (.inl ⟨rfl, rfl⟩) (.inr ⟨.i64, rfl⟩) (by omega) (by omega) 4 c rfl rfl ?_); intro ad19 had; have HA19 := Hd (Bs.partG HS.out 0 4 4 c (by omega) (by omega) rfl rfl ad19 had ((l.drop 0).take 4) rfl); clear had; simp only [PT])
    | (go_at_call 57; (with_reducible show Calls _ _ #[Value.slice ad19 _ _, _] _ _); (refine (z1p ad19 4 c _ big _ (HA19.out.below (HB.out.trans (Below.mono bup HB.out.size)))).mono ?_); intro e w2 hr; unfold RetN at hr; rw [← HT.out] at hr; obtain ⟨rfl, hb__⟩ := hr; have hE__ := cU HB bup hb__; replace HB := ck HB hE__; replace HG4 := ck HG4 hE__; clear hE__; clear hb__))
  go_cut [1, 7] from 14 (fun s1 s7 wx => ∃ G : Bool, s1 = .bool G ∧ s7 = .int .u32 (T : Int) ∧ Hid (getP big l = getQ G l T) ∧ wx.heap[g4]? = some (.cells #[.int .i64 0, .bool false, .int .u32 0, .int .i64 0, .int .u32 0, .int .i64 0, .int .u64 0, .int .u32 0, .slice none 0 0, .slice none 0 0, .slice none 0 0] 27 (0, 0)) ∧ Below w.heap.size w wx)
  case first =>
    by_cases hT : T = 168627466
    · have hTi : (T : Int) = 168627466 := by omega
      have HTT := Hd hT
      by_cases h1 : M1 = 439041101
      · have h1i : (439041101 : Int) = (M1 : Int) := by omega
        have HO : Hid (getP big l = getQ true l T) := Hd (by rw [HQ.out, if_pos hT, if_pos h1])
        clear hT h1 HQ
        go_wp2_with (first
 | ((with_reducible refine sl 28 ?_); (refine z0b elB rfl (.tmp 27) (some (.const (.int .i64 8))) (some (.const (.int .i64 12))) rfl rfl 8 12 (.inr ⟨.i64, rfl⟩) (.inr ⟨.i64, rfl⟩) (by omega) (by omega) 4 (c - 8) rfl rfl ?_); intro ad28 had; have HA28 := Hd (Bs.partG HS.out 8 12 4 (c - 8) (by omega) (by omega) rfl rfl ad28 had ((l.drop 8).take 4) rfl); clear had; simp only [PT])
 | (go_at_call 57; (with_reducible show Calls _ _ #[Value.slice ad28 _ _, _] _ _); (refine (z1p ad28 4 (c - 8) _ true _ (HA28.out.below (HB.out.trans (Below.mono bup HB.out.size)))).mono ?_); intro e w3 hr; unfold RetN at hr; rw [← HM1.out] at hr; obtain ⟨rfl, hb__⟩ := hr; have hE__ := cU HB bup hb__; replace HB := ck HB hE__; replace HG4 := ck HG4 hE__; clear hE__; clear hb__))
        go_meet
        case rel => exact ⟨true, rfl, by rw [HTT.out]; rfl, HO, HG4.out, HB.out⟩
      · have h1i : ¬ (439041101 : Int) = (M1 : Int) := by omega
        by_cases h2 : M2 = 439041101
        · have h2i : (439041101 : Int) = (M2 : Int) := by omega
          have HO : Hid (getP big l = getQ false l T) := Hd (by rw [HQ.out, if_pos hT, if_neg h1, if_pos h2])
          clear hT h1 h2 HQ
          go_wp2_with (first
 | ((with_reducible refine sl 28 ?_); (refine z0b elB rfl (.tmp 27) (some (.const (.int .i64 8))) (some (.const (.int .i64 12))) rfl rfl 8 12 (.inr ⟨.i64, rfl⟩) (.inr ⟨.i64, rfl⟩) (by omega) (by omega) 4 (c - 8) rfl rfl ?_); intro ad28 had; have HA28 := Hd (Bs.partG HS.out 8 12 4 (c - 8) (by omega) (by omega) rfl rfl ad28 had ((l.drop 8).take 4) rfl); clear had; simp only [PT])
 | (go_at_call 57; (with_reducible show Calls _ _ #[Value.slice ad28 _ _, _] _ _); (refine (z1p ad28 4 (c - 8) _ true _ (HA28.out.below (HB.out.trans (Below.mono bup HB.out.size)))).mono ?_); intro e w3 hr; unfold RetN at hr; rw [← HM1.out] at hr; obtain ⟨rfl, hb__⟩ := hr; have hE__ := cU HB bup hb__; replace HB := ck HB hE__; replace HG4 := ck HG4 hE__; clear hE__; clear hb__)
 | ((with_reducible refine sl 33 ?_); (refine z0b elB rfl (.tmp 32) (some (.const (.int .i64 8))) (some (.const (.int .i64 12))) rfl rfl 8 12 (.inr ⟨.i64, rfl⟩) (.inr ⟨.i64, rfl⟩) (by omega) (by omega) 4 (c - 8) rfl rfl ?_); intro ad33 had; have HA33 := Hd (Bs.partG HS.out 8 12 4 (c - 8) (by omega) (by omega) rfl rfl ad33 had ((l.drop 8).take 4) rfl); clear had; simp only [PT])
 | (go_at_call 57; (with_reducible show Calls _ _ #[Value.slice ad33 _ _, _] _ _); (refine (z1p ad33 4 (c - 8) _ false _ (HA33.out.below (HB.out.trans (Below.mono bup HB.out.size)))).mono ?_); intro e w4 hr; unfold RetN at hr; rw [← HM2.out] at hr; obtain ⟨rfl, hb__⟩ := hr; have hE__ := cU HB bup hb__; replace HB := ck HB hE__; replace HG4 := ck HG4 hE__; clear hE__; clear hb__))
          go_meet
          case rel => exact ⟨false, rfl, by rw [HTT.out]; rfl, HO, HG4.out, HB.out⟩
        · have h2i : ¬ (439041101 : Int) = (M2 : Int) := by omega
          have HO : Hid (getP big l = (noneB, 0, 3)) := Hd (by rw [HQ.out, if_pos hT, if_neg h1, if_neg h2])
          clear hT h1 h2 HQ
          go_wp2_with (first
 | ((with_reducible refine sl 28 ?_); (refine z0b elB rfl (.tmp 27) (some (.const (.int .i64 8))) (some (.const (.int .i64 12))) rfl rfl 8 12 (.inr ⟨.i64, rfl⟩) (.inr ⟨.i64, rfl⟩) (by omega) (by omega) 4 (c - 8) rfl rfl ?_); intro ad28 had; have HA28 := Hd (Bs.partG HS.out 8 12 4 (c - 8) (by omega) (by omega) rfl rfl ad28 had ((l.drop 8).take 4) rfl); clear had; simp only [PT])
 | (go_at_call 57; (with_reducible show Calls _ _ #[Value.slice ad28 _ _, _] _ _); (refine (z1p ad28 4 (c - 8) _ true _ (HA28.out.below (HB.out.trans (Below.mono bup HB.out.size)))).mono ?_); intro e w3 hr; unfold RetN at hr; rw [← HM1.out] at hr; obtain ⟨rfl, hb__⟩ := hr; have hE__ := cU HB bup hb__; replace HB := ck HB hE__; replace HG4 := ck HG4 hE__; clear hE__; clear hb__)
 | ((with_reducible refine sl 33 ?_); (refine z0b elB rfl (.tmp 32) (some (.const (.int .i64 8))) (some (.const (.int .i64 12))) rfl rfl 8 12 (.inr ⟨.i64, rfl⟩) (.inr ⟨.i64, rfl⟩) (by omega) (by omega) 4 (c - 8) rfl rfl ?_); intro ad33 had; have HA33 := Hd (Bs.partG HS.out 8 12 4 (c - 8) (by omega) (by omega) rfl rfl ad33 had ((l.drop 8).take 4) rfl); clear had; simp only [PT])
 | (go_at_call 57; (with_reducible show Calls _ _ #[Value.slice ad33 _ _, _] _ _); (refine (z1p ad33 4 (c - 8) _ false _ (HA33.out.below (HB.out.trans (Below.mono bup HB.out.size)))).mono ?_); intro e w4 hr; unfold RetN at hr; rw [← HM2.out] at hr; obtain ⟨rfl, hb__⟩ := hr; have hE__ := cU HB bup hb__; replace HB := ck HB hE__; replace HG4 := ck HG4 hE__; clear hE__; clear hb__)
 | ((with_reducible show wpList _ _ _ (⟨none, .store _ (.tmp 4) (.tmp 25), _, _, _, _⟩ :: _) _ _); (refine z02 rfl 27 (.tmp 4) (.tmp 25) rfl g4 #[.int .i64 0, .bool false, .int .u32 0, .int .i64 0, .int .u32 0, .int .i64 0, .int .u64 0, .int .u32 0, .slice none 0 0, .slice none 0 0, .slice none 0 0] rfl rfl HG4.out HBI.out rfl (all1 _ rfl) ?_); intro w99 hs__ hr__; replace HB := cg HB bup hr__ (by omega); clear HG4; have HG4 := Hd hs__; clear hs__ hr__; simp only [PT]))
          (try simp only [Exit.inBlock, Exit.then, Exit.noGoto_ret])
          refine z04 (cs := [.int .i64 0, .bool false, .int .u32 0, .int .i64 0, .int .u32 0, .int .i64 0, .int .u64 0, .int .u32 0, .slice none 0 0, .slice none 0 0, .slice none 0 0]) rfl rfl (z00 HG4.out) Try.underlying27 rfl HBI.out rfl ?_
          exact ⟨noneV, by rw [HO.out]; rfl, by rw [HO.out]; rfl, ⟨z1i _ _ _ _, OwnOps.nil _ _ _, OwnOps.nil _ _ _⟩, HB.out⟩
    · have hTi : ¬ (T : Int) = 168627466 := by omega
      have HO : Hid (getP big l = getQ big l T) := Hd (by rw [HQ.out, if_neg hT])
      clear hT HQ
      go_wp2_with fail
      go_meet
      case rel => exact ⟨big, rfl, rfl, HO, HG4.out, HB.out⟩
  case rest =>
    obtain ⟨G, rfl, rfl, HQG, hg4, hb4⟩ := hcut
    clear HB HQ
    have HB := Hd hb4
    have HG4 := Hd hg4
    clear hg4 hb4
    obtain ⟨N4, hN4⟩ : ∃ x, x = getN ((l.drop 4).take 4) G := ⟨_, rfl⟩
    have bN4 : N4 < 4294967296 := by rw [hN4]; exact w4_lt G l 4
    have HN4 := Hd hN4
    clear hN4
    obtain ⟨NL, hNL⟩ : ∃ x, x = getN ((l.drop (N4 - 4)).take 4) G := ⟨_, rfl⟩
    have bNL : NL < 4294967296 := by rw [hNL]; exact w4_lt G l (N4 - 4)
    have HNL := Hd hNL
    clear hNL
    have eN : IntKind.i64.wrap (N4 : Int) = (N4 : Int) := by rw [IntKind.wrap_i64]; omega
    have eL : IntKind.i64.wrap (NL : Int) = (NL : Int) := by rw [IntKind.wrap_i64]; omega
    have HQ : Hid (getP big l = if N4 < 12 ∨ N4 % 4 ≠ 0 then (noneB, 0, 3) else if 1048576 < N4 then (noneB, 0, 4) else if l.length < N4 then (noneB, 0, 2) else if NL ≠ N4 then (noneB, 0, 3)
        else endP G N4 (openP (kindP T) T ((l.take (N4 - 4)).drop 8) G)) := Hd (by
      rw [HQG.out]
      unfold getQ
      rw [show w4 G l 4 = N4 from HN4.out.symm, show w4 G l (N4 - 4) = NL from HNL.out.symm])
    clear HQG
    obtain ⟨J, hJ⟩ : ∃ J, J = N4 - 4 := ⟨_, rfl⟩
    rw [← hJ] at HNL HQ
    have HJ := Hd hJ
    clear hJ
    by_cases h1 : N4 < 12
    · have h1i : (N4 : Int) < 12 := by omega
      have hb2 : (decide ((N4 : Int) < 12) || (N4 : Int) % 4 != 0) = true := by simp [h1i]
      have HO : Hid (getP big l = (noneB, 0, 3)) := Hd (by rw [HQ.out, if_pos (.inl h1)])
      clear HQ HN
      go_wp2_with (first
 | ((with_reducible refine sl 37 ?_); (refine z0b elB rfl (.tmp 36) (some (.const (.int .i64 4))) (some (.const (.int .i64 8))) rfl rfl 4 8 (.inr ⟨.i64, rfl⟩) (.inr ⟨.i64, rfl⟩) (by omega) (by omega) 4 (c - 4) rfl rfl ?_); intro ad37 had; have HA37 := Hd (Bs.partG HS.out 4 8 4 (c - 4) (by omega) (by omega) rfl rfl ad37 had ((l.drop 4).take 4) rfl); clear had; simp only [PT])
 | (go_at_call 57; (with_reducible show Calls _ _ #[Value.slice ad37 _ _, _] _ _); (refine (z1p ad37 4 (c - 4) _ G _ (HA37.out.below (HB.out.trans (Below.mono bup HB.out.size)))).mono ?_); intro e w5 hr; unfold RetN at hr; rw [← HN4.out] at hr; obtain ⟨rfl, hb__⟩ := hr; have hE__ := cU HB bup hb__; replace HB := ck HB hE__; replace HG4 := ck HG4 hE__; clear hE__; clear hb__)
 | ((with_reducible show wpList _ _ _ (⟨none, .store _ (.tmp 4) (.tmp 49), _, _, _, _⟩ :: _) _ _); (refine z02 rfl 27 (.tmp 4) (.tmp 49) rfl g4 #[.int .i64 0, .bool false, .int .u32 0, .int .i64 0, .int .u32 0, .int .i64 0, .int .u64 0, .int .u32 0, .slice none 0 0, .slice none 0 0, .slice none 0 0] rfl rfl HG4.out HBI.out rfl (all1 _ rfl) ?_); intro w99 hs__ hr__; replace HB := cg HB bup hr__ (by omega); clear HG4; have HG4 := Hd hs__; clear hs__ hr__; simp only [PT]))
      (try simp only [Exit.inBlock, Exit.then, Exit.noGoto_ret])
      refine z04 (cs := [.int .i64 0, .bool false, .int .u32 0, .int .i64 0, .int .u32 0, .int .i64 0, .int .u64 0, .int .u32 0, .slice none 0 0, .slice none 0 0, .slice none 0 0]) rfl rfl (z00 HG4.out) Try.underlying27 rfl HBI.out rfl ?_
      exact ⟨noneV, by rw [HO.out]; rfl, by rw [HO.out]; rfl, ⟨z1i _ _ _ _, OwnOps.nil _ _ _, OwnOps.nil _ _ _⟩, HB.out⟩
    have h1i : ¬ (N4 : Int) < 12 := by omega
    by_cases h2 : N4 % 4 = 0
    rotate_left
    · have HO : Hid (getP big l = (noneB, 0, 3)) := Hd (by rw [HQ.out, if_pos (.inr h2)])
      have h2i : ¬ (N4 : Int) % 4 = 0 := by omega
      have hb2 : (decide ((N4 : Int) < 12) || (N4 : Int) % 4 != 0) = true := by simp [h1i, h2i]
      clear HQ HN
      go_wp2_with (first
 | ((with_reducible refine sl 37 ?_); (refine z0b elB rfl (.tmp 36) (some (.const (.int .i64 4))) (some (.const (.int .i64 8))) rfl rfl 4 8 (.inr ⟨.i64, rfl⟩) (.inr ⟨.i64, rfl⟩) (by omega) (by omega) 4 (c - 4) rfl rfl ?_); intro ad37 had; have HA37 := Hd (Bs.partG HS.out 4 8 4 (c - 4) (by omega) (by omega) rfl rfl ad37 had ((l.drop 4).take 4) rfl); clear had; simp only [PT])
 | (go_at_call 57; (with_reducible show Calls _ _ #[Value.slice ad37 _ _, _] _ _); (refine (z1p ad37 4 (c - 4) _ G _ (HA37.out.below (HB.out.trans (Below.mono bup HB.out.size)))).mono ?_); intro e w5 hr; unfold RetN at hr; rw [← HN4.out] at hr; obtain ⟨rfl, hb__⟩ := hr; have hE__ := cU HB bup hb__; replace HB := ck HB hE__; replace HG4 := ck HG4 hE__; clear hE__; clear hb__)
 | ((with_reducible show wpList _ _ _ (⟨none, .store _ (.tmp 4) (.tmp 49), _, _, _, _⟩ :: _) _ _); (refine z02 rfl 27 (.tmp 4) (.tmp 49) rfl g4 #[.int .i64 0, .bool false, .int .u32 0, .int .i64 0, .int .u32 0, .int .i64 0, .int .u64 0, .int .u32 0, .slice none 0 0, .slice none 0 0, .slice none 0 0] rfl rfl HG4.out HBI.out rfl (all1 _ rfl) ?_); intro w99 hs__ hr__; replace HB := cg HB bup hr__ (by omega); clear HG4; have HG4 := Hd hs__; clear hs__ hr__; simp only [PT]))
      (try simp only [Exit.inBlock, Exit.then, Exit.noGoto_ret])
      refine z04 (cs := [.int .i64 0, .bool false, .int .u32 0, .int .i64 0, .int .u32 0, .int .i64 0, .int .u64 0, .int .u32 0, .slice none 0 0, .slice none 0 0, .slice none 0 0]) rfl rfl (z00 HG4.out) Try.underlying27 rfl HBI.out rfl ?_
      exact ⟨noneV, by rw [HO.out]; rfl, by rw [HO.out]; rfl, ⟨z1i _ _ _ _, OwnOps.nil _ _ _, OwnOps.nil _ _ _⟩, HB.out⟩
    have h2i : (N4 : Int) % 4 = 0 := by omega
    have hb2 : (decide ((N4 : Int) < 12) || (N4 : Int) % 4 != 0) = false := by simp [h1i, h2i]
    replace HQ := Hd (HQ.out.trans (if_neg (by omega)))
    by_cases h3 : 1048576 < N4
    · have h3i : (1048576 : Int) < (N4 : Int) := by omega
      have HO : Hid (getP big l = (noneB, 0, 4)) := Hd (by rw [HQ.out, if_pos h3])
      clear HQ HN
      go_wp2_with (first
 | ((with_reducible refine sl 37 ?_); (refine z0b elB rfl (.tmp 36) (some (.const (.int .i64 4))) (some (.const (.int .i64 8))) rfl rfl 4 8 (.inr ⟨.i64, rfl⟩) (.inr ⟨.i64, rfl⟩) (by omega) (by omega) 4 (c - 4) rfl rfl ?_); intro ad37 had; have HA37 := Hd (Bs.partG HS.out 4 8 4 (c - 4) (by omega) (by omega) rfl rfl ad37 had ((l.drop 4).take 4) rfl); clear had; simp only [PT])
 | (go_at_call 57; (with_reducible show Calls _ _ #[Value.slice ad37 _ _, _] _ _); (refine (z1p ad37 4 (c - 4) _ G _ (HA37.out.below (HB.out.trans (Below.mono bup HB.out.size)))).mono ?_); intro e w5 hr; unfold RetN at hr; rw [← HN4.out] at hr; obtain ⟨rfl, hb__⟩ := hr; have hE__ := cU HB bup hb__; replace HB := ck HB hE__; replace HG4 := ck HG4 hE__; clear hE__; clear hb__)
 | ((with_reducible show wpList _ _ _ (⟨none, .store _ (.tmp 4) (.tmp 53), _, _, _, _⟩ :: _) _ _); (refine z02 rfl 27 (.tmp 4) (.tmp 53) rfl g4 #[.int .i64 0, .bool false, .int .u32 0, .int .i64 0, .int .u32 0, .int .i64 0, .int .u64 0, .int .u32 0, .slice none 0 0, .slice none 0 0, .slice none 0 0] rfl rfl HG4.out HBI.out rfl (all1 _ rfl) ?_); intro w99 hs__ hr__; replace HB := cg HB bup hr__ (by omega); clear HG4; have HG4 := Hd hs__; clear hs__ hr__; simp only [PT]))
      (try simp only [Exit.inBlock, Exit.then, Exit.noGoto_ret])
      refine z04 (cs := [.int .i64 0, .bool false, .int .u32 0, .int .i64 0, .int .u32 0, .int .i64 0, .int .u64 0, .int .u32 0, .slice none 0 0, .slice none 0 0, .slice none 0 0]) rfl rfl (z00 HG4.out) Try.underlying27 rfl HBI.out rfl ?_
      exact ⟨noneV, by rw [HO.out]; rfl, by rw [HO.out]; rfl, ⟨z1i _ _ _ _, OwnOps.nil _ _ _, OwnOps.nil _ _ _⟩, HB.out⟩
    have h3i : ¬ (1048576 : Int) < (N4 : Int) := by omega
    replace HQ := Hd (HQ.out.trans (if_neg h3))
    by_cases h4 : n < N4
    · have h4i : (n : Int) < (N4 : Int) := by omega
      have HO : Hid (getP big l = (noneB, 0, 2)) := Hd (by rw [HQ.out, if_pos (by have := HN.out; omega)])
      clear HQ HN
      go_wp2_with (first
 | ((with_reducible refine sl 37 ?_); (refine z0b elB rfl (.tmp 36) (some (.const (.int .i64 4))) (some (.const (.int .i64 8))) rfl rfl 4 8 (.inr ⟨.i64, rfl⟩) (.inr ⟨.i64, rfl⟩) (by omega) (by omega) 4 (c - 4) rfl rfl ?_); intro ad37 had; have HA37 := Hd (Bs.partG HS.out 4 8 4 (c - 4) (by omega) (by omega) rfl rfl ad37 had ((l.drop 4).take 4) rfl); clear had; simp only [PT])
 | (go_at_call 57; (with_reducible show Calls _ _ #[Value.slice ad37 _ _, _] _ _); (refine (z1p ad37 4 (c - 4) _ G _ (HA37.out.below (HB.out.trans (Below.mono bup HB.out.size)))).mono ?_); intro e w5 hr; unfold RetN at hr; rw [← HN4.out] at hr; obtain ⟨rfl, hb__⟩ := hr; have hE__ := cU HB bup hb__; replace HB := ck HB hE__; replace HG4 := ck HG4 hE__; clear hE__; clear hb__)
 | ((with_reducible show wpList _ _ _ (⟨none, .store _ (.tmp 4) (.tmp 59), _, _, _, _⟩ :: _) _ _); (refine z02 rfl 27 (.tmp 4) (.tmp 59) rfl g4 #[.int .i64 0, .bool false, .int .u32 0, .int .i64 0, .int .u32 0, .int .i64 0, .int .u64 0, .int .u32 0, .slice none 0 0, .slice none 0 0, .slice none 0 0] rfl rfl HG4.out HBI.out rfl (all1 _ rfl) ?_); intro w99 hs__ hr__; replace HB := cg HB bup hr__ (by omega); clear HG4; have HG4 := Hd hs__; clear hs__ hr__; simp only [PT]))
      (try simp only [Exit.inBlock, Exit.then, Exit.noGoto_ret])
      refine z04 (cs := [.int .i64 0, .bool false, .int .u32 0, .int .i64 0, .int .u32 0, .int .i64 0, .int .u64 0, .int .u32 0, .slice none 0 0, .slice none 0 0, .slice none 0 0]) rfl rfl (z00 HG4.out) Try.underlying27 rfl HBI.out rfl ?_
      exact ⟨noneV, by rw [HO.out]; rfl, by rw [HO.out]; rfl, ⟨z1i _ _ _ _, OwnOps.nil _ _ _, OwnOps.nil _ _ _⟩, HB.out⟩
    have h4i : ¬ (n : Int) < (N4 : Int) := by omega
    replace HQ := Hd (HQ.out.trans (if_neg (by have := HN.out; omega)))
    have j1 : J + 4 ≤ N4 := by have := HJ.out; omega
    have j2 : N4 ≤ J + 4 := by have := HJ.out; omega
    have j3 : (N4 : Int) - 4 = (J : Int) := by omega
    have j4 : IntKind.i64.wrap ((N4 : Int) - 4) = (J : Int) := by rw [IntKind.wrap_i64]; omega
    have j5 : IntKind.i64.wrap (J : Int) = (J : Int) := by rw [IntKind.wrap_i64]; omega
    have HNJ : Hid (N4 - J = 4) := Hd (by omega)
    by_cases h5 : NL = N4
    rotate_left
    · have h5i : ¬ (NL : Int) = (N4 : Int) := by omega
      have HO : Hid (getP big l = (noneB, 0, 3)) := Hd (by rw [HQ.out, if_pos h5])
      clear HQ HN
      go_wp2_with (first
 | ((with_reducible refine sl 37 ?_); (refine z0b elB rfl (.tmp 36) (some (.const (.int .i64 4))) (some (.const (.int .i64 8))) rfl rfl 4 8 (.inr ⟨.i64, rfl⟩) (.inr ⟨.i64, rfl⟩) (by omega) (by omega) 4 (c - 4) rfl rfl ?_); intro ad37 had; have HA37 := Hd (Bs.partG HS.out 4 8 4 (c - 4) (by omega) (by omega) rfl rfl ad37 had ((l.drop 4).take 4) rfl); clear had; simp only [PT])
 | (go_at_call 57; (with_reducible show Calls _ _ #[Value.slice ad37 _ _, _] _ _); (refine (z1p ad37 4 (c - 4) _ G _ (HA37.out.below (HB.out.trans (Below.mono bup HB.out.size)))).mono ?_); intro e w5 hr; unfold RetN at hr; rw [← HN4.out] at hr; obtain ⟨rfl, hb__⟩ := hr; have hE__ := cU HB bup hb__; replace HB := ck HB hE__; replace HG4 := ck HG4 hE__; clear hE__; clear hb__)
 | ((with_reducible refine sl 65 ?_); (refine z0b elB rfl (.tmp 61) (some (.tmp 63)) (some (.tmp 64)) rfl rfl J N4 (.inr ⟨.i64, rfl⟩) (.inr ⟨.i64, rfl⟩) (by omega) (by omega) 4 (c - J) HNJ.out rfl ?_); intro ad65 had; have HA65 := Hd (Bs.partG HS.out J N4 4 (c - J) (by omega) (by omega) HNJ.out rfl ad65 had ((l.drop J).take 4) rfl); clear had; simp only [PT])
 | (go_at_call 57; (with_reducible show Calls _ _ #[Value.slice ad65 _ _, _] _ _); (refine (z1p ad65 4 (c - J) _ G _ (HA65.out.below (HB.out.trans (Below.mono bup HB.out.size)))).mono ?_); intro e w6 hr; unfold RetN at hr; rw [← HNL.out] at hr; obtain ⟨rfl, hb__⟩ := hr; have hE__ := cU HB bup hb__; replace HB := ck HB hE__; replace HG4 := ck HG4 hE__; clear hE__; clear hb__)
 | ((with_reducible show wpList _ _ _ (⟨none, .store _ (.tmp 4) (.tmp 71), _, _, _, _⟩ :: _) _ _); (refine z02 rfl 27 (.tmp 4) (.tmp 71) rfl g4 #[.int .i64 0, .bool false, .int .u32 0, .int .i64 0, .int .u32 0, .int .i64 0, .int .u64 0, .int .u32 0, .slice none 0 0, .slice none 0 0, .slice none 0 0] rfl rfl HG4.out HBI.out rfl (all1 _ rfl) ?_); intro w99 hs__ hr__; replace HB := cg HB bup hr__ (by omega); clear HG4; have HG4 := Hd hs__; clear hs__ hr__; simp only [PT]))
      (try simp only [Exit.inBlock, Exit.then, Exit.noGoto_ret])
      refine z04 (cs := [.int .i64 0, .bool false, .int .u32 0, .int .i64 0, .int .u32 0, .int .i64 0, .int .u64 0, .int .u32 0, .slice none 0 0, .slice none 0 0, .slice none 0 0]) rfl rfl (z00 HG4.out) Try.underlying27 rfl HBI.out rfl ?_
      exact ⟨noneV, by rw [HO.out]; rfl, by rw [HO.out]; rfl, ⟨z1i _ _ _ _, OwnOps.nil _ _ _, OwnOps.nil _ _ _⟩, HB.out⟩
    replace HQ := Hd (HQ.out.trans (if_neg (fun e => e h5)))
    have HNE : Hid (N4 = getN ((l.drop J).take 4) G) := Hd (by rw [← h5]; exact HNL.out)
    clear h5 HNL eL bNL
    obtain ⟨KD, hKD⟩ : ∃ K, K = kindP T := ⟨_, rfl⟩
    obtain ⟨TT, hTT⟩ : ∃ x, x = if KD = 7 then T else 0 := ⟨_, rfl⟩
    obtain ⟨D, hD⟩ : ∃ D, D = (l.drop 8).take (J - 8) := ⟨_, rfl⟩
    obtain ⟨O, hO⟩ : ∃ O, O = openP KD T D G := ⟨_, rfl⟩
    have hDe : (l.take J).drop 8 = D := by rw [hD, List.drop_take]
    have hj8 : 8 ≤ J := by omega
    have HOPN : Hid (∀ ad n c w, Bs w ad n c D → n ≤ 1048576 → Calls Try.prog 59 #[.agg #[.int .i64 KD, .bool false, .int .u32 ((TT : Nat) : Int), .int .i64 0, .int .u32 0, .int .i64 0, .int .u64 0, .int .u32 0, .slice none 0 0, .slice none 0 0, .slice none 0 0], .slice ad n c, .bool G] w (OpenR ad n c D O w)) := Hd (fun ad n c w hs hn => by
      rw [hO, hTT, hKD]
      exact open_any T ad n c D G w hs hn)
    have HK : Hid (∀ w, Calls Try.prog 58 #[.int .u32 (T : Int)] w fun e w' => e = .returned (.int .i64 KD) ∧ Below w.heap.size w w') := Hd (fun w => by rw [hKD]; exact z2j T w)
    rw [hDe, ← hKD, ← hO] at HQ
    have HTT := Hd hTT
    have HORL : Hid (∀ x r, O = some (x, r) → r.length ≤ 1000000000) := Hd (fun x r h => by
      have h1 := open_rest (hO.symm.trans h)
      rw [hD, List.length_take] at h1
      omega)
    have HD := Hd hD.symm
    clear hKD hTT hD hO hDe
    go_upto_if 77 with (first
      | ((with_reducible refine sl 37 ?_); (refine z0b elB rfl (.tmp 36) (some (.const (.int .i64 4))) (some (.const (.int .i64 8))) rfl rfl 4 8 (.inr ⟨.i64, rfl⟩) (.inr ⟨.i64, rfl⟩) (by omega) (by omega) 4 (c - 4) rfl rfl ?_); intro ad37 had; have HA37 := Hd (Bs.partG HS.out 4 8 4 (c - 4) (by omega) (by omega) rfl rfl ad37 had ((l.drop 4).take 4) rfl); clear had; simp only [PT])
      | (go_at_call 57; (with_reducible show Calls _ _ #[Value.slice ad37 _ _, _] _ _); (refine (z1p ad37 4 (c - 4) _ G _ (HA37.out.below (HB.out.trans (Below.mono bup HB.out.size)))).mono ?_); intro e w5 hr; unfold RetN at hr; rw [← HN4.out] at hr; obtain ⟨rfl, hb__⟩ := hr; have hE__ := cU HB bup hb__; replace HB := ck HB hE__; replace HG4 := ck HG4 hE__; clear hE__; clear hb__)
      | ((with_reducible refine sl 65 ?_); (refine z0b elB rfl (.tmp 61) (some (.tmp 63)) (some (.tmp 64)) rfl rfl J N4 (.inr ⟨.i64, rfl⟩) (.inr ⟨.i64, rfl⟩) (by omega) (by omega) 4 (c - J) HNJ.out rfl ?_); intro ad65 had; have HA65 := Hd (Bs.partG HS.out J N4 4 (c - J) (by omega) (by omega) HNJ.out rfl ad65 had ((l.drop J).take 4) rfl); clear had; simp only [PT])
      | (go_at_call 57; (with_reducible show Calls _ _ #[Value.slice ad65 _ _, _] _ _); (refine (z1p ad65 4 (c - J) _ G _ (HA65.out.below (HB.out.trans (Below.mono bup HB.out.size)))).mono ?_); intro e w6 hr; unfold RetN at hr; rw [← HNE.out] at hr; obtain ⟨rfl, hb__⟩ := hr; have hE__ := cU HB bup hb__; replace HB := ck HB hE__; replace HG4 := ck HG4 hE__; clear hE__; clear hb__)
      | (go_at_call 58; (refine (HK.out _).mono ?_); intro e w7 hr; obtain ⟨rfl, hb__⟩ := hr; have hE__ := cU HB bup hb__; replace HB := ck HB hE__; replace HG4 := ck HG4 hE__; clear hE__; clear hb__)
      | ((with_reducible refine sl 9 ?_); (refine z09 rfl 27 rfl (.agg #[.int .i64 0, .bool false, .int .u32 0, .int .i64 0, .int .u32 0, .int .i64 0, .int .u64 0, .int .u32 0, .slice none 0 0, .slice none 0 0, .slice none 0 0]) #[.int .i64 0, .bool false, .int .u32 0, .int .i64 0, .int .u32 0, .int .i64 0, .int .u64 0, .int .u32 0, .slice none 0 0, .slice none 0 0, .slice none 0 0] 11 (by kernel_rfl) rfl ?_); intro w8 g9 he__ le_g9 lt_g9 hg__ hb__; have h49 : g4 < g9 := Nat.lt_of_lt_of_le (lt_of_block (by exact HG4.out)) le_g9; have HG9 := Hd hg__; have hE__ := cU HB bup hb__; replace HB := ck HB hE__; replace HG4 := ck HG4 hE__; clear hE__; clear hg__ hb__ he__; simp only [PT])
      | ((with_reducible show wpList _ _ _ (⟨none, .store _ (.tmp 9) (.tmp 74), _, _, _, _⟩ :: _) _ _); (refine z02 rfl 27 (.tmp 9) (.tmp 74) rfl g9 #[.int .i64 KD, .bool false, .int .u32 0, .int .i64 0, .int .u32 0, .int .i64 0, .int .u64 0, .int .u32 0, .slice none 0 0, .slice none 0 0, .slice none 0 0] rfl rfl HG9.out HBI.out rfl (all1 _ rfl) ?_); intro w9 hs__ hr__; replace HB := cg HB bup hr__ (by omega); replace HG4 := cg HG4 bup hr__ (by omega); clear HG9; have HG9 := Hd hs__; clear hs__ hr__; simp only [PT])
      | ((with_reducible refine sl 76 ?_); (refine z01 rfl 3 (.tmp 75) rfl g9 0 rfl (.int .i64 KD) HG9.out rfl Try.underlying3 rfl ?_); simp only [PT]))
    go_cut [] from 14 (fun wx => wx.heap[g9]? = some (.cells #[.int .i64 KD, .bool false, .int .u32 ((TT : Nat) : Int), .int .i64 0, .int .u32 0, .int .i64 0, .int .u64 0, .int .u32 0, .slice none 0 0, .slice none 0 0, .slice none 0 0] 27 (0, 0)) ∧ wx.heap[g4]? = some (.cells #[.int .i64 0, .bool false, .int .u32 0, .int .i64 0, .int .u32 0, .int .i64 0, .int .u64 0, .int .u32 0, .slice none 0 0, .slice none 0 0, .slice none 0 0] 27 (0, 0)) ∧ Below w.heap.size w wx)
    case first =>
      by_cases hk7 : KD = 7
      · have HK7 := Hd hk7
        go_wp2_with (first
 | ((with_reducible show wpList _ _ _ (⟨none, .store _ (.tmp 79) (.tmp 78), _, _, _, _⟩ :: _) _ _); (refine z0c rfl 22 (.tmp 79) (.tmp 78) rfl g9 2 (.int .u32 (T : Int)) rfl rfl rfl HG9.out (by simp) (by kernel_rfl) #[.int .i64 KD, .bool false, .int .u32 (T : Int), .int .i64 0, .int .u32 0, .int .i64 0, .int .u64 0, .int .u32 0, .slice none 0 0, .slice none 0 0, .slice none 0 0] rfl ?_); intro w10 hs__ hr__; replace HB := cg HB bup hr__ (by omega); replace HG4 := cg HG4 bup hr__ (by omega); clear HG9; have HG9 := Hd hs__; clear hs__ hr__; simp only [PT]))
        go_meet
        case rel => exact ⟨by rw [HTT.out, if_pos HK7.out]; exact HG9.out, HG4.out, HB.out⟩
      · have HK7 := Hd hk7
        go_wp2_with fail
        go_meet
        case rel => exact ⟨by rw [HTT.out, if_neg HK7.out]; exact HG9.out, HG4.out, HB.out⟩
    case rest =>
      obtain ⟨hg9, hg4, hb4⟩ := hcut
      clear HB HG4 HG9
      have HB := Hd hb4
      have HG4 := Hd hg4
      have HG9 := Hd hg9
      clear hg9 hg4 hb4
      cases O with
      | none =>
        have HO : Hid (getP big l = (noneB, 0, 3)) := Hd HQ.out
        clear HQ HN
        go_wp2_with fail
        refine wp_region_held_drew (S := fun u => True) (by kernel_rfl) ?_ (fun hHeld => ?_); (focus (exact trivial)); (refine tk 1 (oi := ⟨some 82, _, _, _, _, _⟩) (v := ?_) rfl (by kernel_rfl) (.inl ⟨by rfl, ?_⟩) hHeld ?_; rotate_left; focus (intro w hSw; (try dsimp only at hSw); go_simp; try with_reducible rfl)); simp only [PT]; (refine tk 2 (oi := ⟨some 83, _, _, _, _, _⟩) (v := ?_) rfl (by kernel_rfl) (.inl ⟨by rfl, ?_⟩) hHeld ?_; rotate_left; focus (intro w hSw; (try dsimp only at hSw); go_simp; try with_reducible rfl)); simp only [PT]; (refine' tk 3 (oi := ⟨some 84, _, _, _, _, _⟩) (v := (.int .i64 (J : Int))) rfl (by kernel_rfl) (.inl ⟨by rfl, ?_⟩) hHeld ?_; focus (intro w hSw; (try dsimp only at hSw); go_simp; first | done | rfl | (simp [*]; done) | (simp [*]; omega))); simp only [PT]; refine' tk 4 (oi := ⟨some 85, _, _, _, _, _⟩) (v := _) rfl (by kernel_rfl) (z14 elB rfl (.tmp 82) (some (.const (.int .i64 8))) (some (.tmp 84)) rfl rfl 8 J (.inr ⟨.i64, rfl⟩) (.inr ⟨.i64, rfl⟩) hj8 (by omega)) hHeld ?_; simp only [PT]; (refine tk 5 (oi := ⟨some 86, _, _, _, _, _⟩) (v := ?_) rfl (by kernel_rfl) (.inl ⟨by rfl, ?_⟩) hHeld ?_; rotate_left; focus (intro w hSw; (try dsimp only at hSw); go_simp; try with_reducible rfl)); simp only [PT]; refine wpAnyH_ready (rs := [0]) (by kernel_rfl) (by simp) ?_; refine (AllReadyH.cons (o := ⟨some 81, _, _, _, _, _⟩) rfl (fun K hK => ?_) AllReadyH.nil); ((refine z1m rfl 27 (.tmp 9) rfl g9 0 rfl [.int .i64 KD, .bool false, .int .u32 ((TT : Nat) : Int), .int .i64 0, .int .u32 0, .int .i64 0, .int .u64 0, .int .u32 0, .slice none 0 0, .slice none 0 0, .slice none 0 0] _ (by exact z00 HG9.out) Try.underlying27 rfl HBI.out ?_)); refine hK.out _ _ ?_ (fun hHeld => ?_); (focus (exact trivial)); clear hK K; (try simp only [PT]); refine wpAnyH_ready (rs := [6]) (by kernel_rfl) (by simp) ?_; refine (AllReadyH.cons (o := ⟨some 87, _, _, _, _, _⟩) rfl (fun K hK => ?_) AllReadyH.nil); (focus (go_simp; have HAB : ∀ w0, Bs w0 ad n c l → Bs w0 (subAd ad c 8 1) (J - 8) (c - 8) D := fun w0 h0 => (by rw [← HD.out]; exact Bs.part h0 8 J hj8 (by omega)); (refine (HOPN.out _ (J - 8) (c - 8) _ (HAB _ (HS.out.below (HB.out.trans (Below.mono bup HB.out.size)))) (by omega)).mono ?_); intro e w11 hr; obtain ⟨v, rad, rn, rc, ok, rfl, hok, hgood, hb__⟩ := hr; have hok2 : ok = false := hok; subst hok2; have hE__ := cU HB bup hb__; replace HB := ck HB hE__; replace HG4 := ck HG4 hE__; replace HG9 := ck HG9 hE__; clear hE__; clear hb__ hok hgood; go_wp2_with fail)); refine hK.out _ _ ?_ (fun hHeld => ?_); (focus (exact trivial)); clear hK K; (try simp only [PT]); (refine tk 7 (oi := ⟨some 80, _, _, _, _, _⟩) (v := ?_) rfl (by kernel_rfl) (.inl ⟨by rfl, ?_⟩) hHeld ?_; rotate_left; focus (intro w hSw; (try dsimp only at hSw); go_simp; try with_reducible rfl)); simp only [PT]; (refine tk 8 (oi := ⟨some 88, _, _, _, _, _⟩) (v := ?_) rfl (by kernel_rfl) (.inl ⟨by rfl, ?_⟩) hHeld ?_; rotate_left; focus (intro w hSw; (try dsimp only at hSw); go_simp; try with_reducible rfl)); simp only [PT]; (refine tk 9 (oi := ⟨some 89, _, _, _, _, _⟩) (v := ?_) rfl (by kernel_rfl) (.inl ⟨by rfl, ?_⟩) hHeld ?_; rotate_left; focus (intro w hSw; (try dsimp only at hSw); go_simp; try with_reducible rfl)); simp only [PT]; (refine tk 10 (oi := ⟨some 90, _, _, _, _, _⟩) (v := ?_) rfl (by kernel_rfl) (.inl ⟨by rfl, ?_⟩) hHeld ?_; rotate_left; focus (intro w hSw; (try dsimp only at hSw); go_simp; try with_reducible rfl)); simp only [PT]; refine wpAnyH_ready (rs := [11]) (by kernel_rfl) (by simp) ?_; refine (AllReadyH.cons (o := ⟨none, _, _, _, _, _⟩) rfl (fun K hK => ?_) AllReadyH.nil); ((refine z0j rfl 27 (.tmp 9) (.tmp 88) rfl g9 v.cells.toArray rfl rfl HG9.out HBI.out rfl (z0h v) ?_); intro w12 hs__ hr__; replace HB := cg HB bup hr__ (by omega); replace HG4 := cg HG4 bup hr__ (by omega); clear HG9; have HG9 := Hd hs__; clear hs__ hr__); refine hK.out _ _ ?_ (fun hHeld => ?_); (focus (exact trivial)); clear hK K
        (try simp only [PT]); (refine tk 12 (oi := ⟨some 10, _, _, _, _, _⟩) (v := ?_) rfl (by kernel_rfl) (.inl ⟨by rfl, ?_⟩) hHeld ?_; rotate_left; focus (intro w hSw; (try dsimp only at hSw); go_simp; try with_reducible rfl)); simp only [PT]; (refine tk 13 (oi := ⟨some 11, _, _, _, _, _⟩) (v := ?_) rfl (by kernel_rfl) (.inl ⟨by rfl, ?_⟩) hHeld ?_; rotate_left; focus (intro w hSw; (try dsimp only at hSw); go_simp; try with_reducible rfl)); simp only [PT]; refine wpAnyH_done (by kernel_rfl) ?_ _
        all_goals
          go_wp2_with (first
 | ((with_reducible show wpList _ _ _ (⟨none, .store _ (.tmp 4) (.tmp 93), _, _, _, _⟩ :: _) _ _); (refine z02 rfl 27 (.tmp 4) (.tmp 93) rfl g4 #[.int .i64 0, .bool false, .int .u32 0, .int .i64 0, .int .u32 0, .int .i64 0, .int .u64 0, .int .u32 0, .slice none 0 0, .slice none 0 0, .slice none 0 0] rfl rfl HG4.out HBI.out rfl (all1 _ rfl) ?_); intro w99 hs__ hr__; replace HB := cg HB bup hr__ (by omega); clear HG4; have HG4 := Hd hs__; clear hs__ hr__; simp only [PT]))
          (try simp only [Exit.inBlock, Exit.then, Exit.noGoto_ret])
          refine z04 (cs := [.int .i64 0, .bool false, .int .u32 0, .int .i64 0, .int .u32 0, .int .i64 0, .int .u64 0, .int .u32 0, .slice none 0 0, .slice none 0 0, .slice none 0 0]) rfl rfl (z00 HG4.out) Try.underlying27 rfl HBI.out rfl ?_
          exact ⟨noneV, by rw [HO.out]; rfl, by rw [HO.out]; rfl, ⟨z1i _ _ _ _, OwnOps.nil _ _ _, OwnOps.nil _ _ _⟩, HB.out⟩
      | some p =>
        obtain ⟨x, r⟩ := p
        go_wp2_with fail
        refine wp_region_held_drew (S := fun u => True) (by kernel_rfl) ?_ (fun hHeld => ?_); (focus (exact trivial)); (refine tk 1 (oi := ⟨some 82, _, _, _, _, _⟩) (v := ?_) rfl (by kernel_rfl) (.inl ⟨by rfl, ?_⟩) hHeld ?_; rotate_left; focus (intro w hSw; (try dsimp only at hSw); go_simp; try with_reducible rfl)); simp only [PT]; (refine tk 2 (oi := ⟨some 83, _, _, _, _, _⟩) (v := ?_) rfl (by kernel_rfl) (.inl ⟨by rfl, ?_⟩) hHeld ?_; rotate_left; focus (intro w hSw; (try dsimp only at hSw); go_simp; try with_reducible rfl)); simp only [PT]; (refine' tk 3 (oi := ⟨some 84, _, _, _, _, _⟩) (v := (.int .i64 (J : Int))) rfl (by kernel_rfl) (.inl ⟨by rfl, ?_⟩) hHeld ?_; focus (intro w hSw; (try dsimp only at hSw); go_simp; first | done | rfl | (simp [*]; done) | (simp [*]; omega))); simp only [PT]; refine' tk 4 (oi := ⟨some 85, _, _, _, _, _⟩) (v := _) rfl (by kernel_rfl) (z14 elB rfl (.tmp 82) (some (.const (.int .i64 8))) (some (.tmp 84)) rfl rfl 8 J (.inr ⟨.i64, rfl⟩) (.inr ⟨.i64, rfl⟩) hj8 (by omega)) hHeld ?_; simp only [PT]; (refine tk 5 (oi := ⟨some 86, _, _, _, _, _⟩) (v := ?_) rfl (by kernel_rfl) (.inl ⟨by rfl, ?_⟩) hHeld ?_; rotate_left; focus (intro w hSw; (try dsimp only at hSw); go_simp; try with_reducible rfl)); simp only [PT]; refine wpAnyH_ready (rs := [0]) (by kernel_rfl) (by simp) ?_; refine (AllReadyH.cons (o := ⟨some 81, _, _, _, _, _⟩) rfl (fun K hK => ?_) AllReadyH.nil); ((refine z1m rfl 27 (.tmp 9) rfl g9 0 rfl [.int .i64 KD, .bool false, .int .u32 ((TT : Nat) : Int), .int .i64 0, .int .u32 0, .int .i64 0, .int .u64 0, .int .u32 0, .slice none 0 0, .slice none 0 0, .slice none 0 0] _ (by exact z00 HG9.out) Try.underlying27 rfl HBI.out ?_)); refine hK.out _ _ ?_ (fun hHeld => ?_); (focus (exact trivial)); clear hK K; (try simp only [PT]); refine wpAnyH_ready (rs := [6]) (by kernel_rfl) (by simp) ?_; refine (AllReadyH.cons (o := ⟨some 87, _, _, _, _, _⟩) rfl (fun K hK => ?_) AllReadyH.nil); (focus (go_simp; have HAB : ∀ w0, Bs w0 ad n c l → Bs w0 (subAd ad c 8 1) (J - 8) (c - 8) D := fun w0 h0 => (by rw [← HD.out]; exact Bs.part h0 8 J hj8 (by omega)); (refine (HOPN.out _ (J - 8) (c - 8) _ (HAB _ (HS.out.below (HB.out.trans (Below.mono bup HB.out.size)))) (by omega)).mono ?_); intro e w11 hr; obtain ⟨v, rad, rn, rc, ok, rfl, hok, hgood, hb__⟩ := hr; have hok2 : ok = true := hok; subst hok2; obtain ⟨hval, hrb, hown⟩ := hgood x r rfl; have HVAL := Hd hval; have HX := Hd (hown.base (base' := g9 + 1) (lt_of_block (by exact HG9.out))); have HR := Hd (hrb _ (HAB _ HS.out)); have hrn : rn ≤ 1000000000 := (by have h1 := HORL.out x r rfl; have h2 := HR.out.len; omega); have hE__ := cU HB bup hb__; replace HB := ck HB hE__; replace HG4 := ck HG4 hE__; replace HG9 := ck HG9 hE__; clear hE__; clear hb__ hok hgood hval hrb hown; go_wp2_with fail)); refine hK.out _ _ ?_ (fun hHeld => ?_); (focus (exact trivial)); clear hK K; (try simp only [PT]); (refine tk 7 (oi := ⟨some 80, _, _, _, _, _⟩) (v := ?_) rfl (by kernel_rfl) (.inl ⟨by rfl, ?_⟩) hHeld ?_; rotate_left; focus (intro w hSw; (try dsimp only at hSw); go_simp; try with_reducible rfl)); simp only [PT]; (refine tk 8 (oi := ⟨some 88, _, _, _, _, _⟩) (v := ?_) rfl (by kernel_rfl) (.inl ⟨by rfl, ?_⟩) hHeld ?_; rotate_left; focus (intro w hSw; (try dsimp only at hSw); go_simp; try with_reducible rfl)); simp only [PT]; (refine tk 9 (oi := ⟨some 89, _, _, _, _, _⟩) (v := ?_) rfl (by kernel_rfl) (.inl ⟨by rfl, ?_⟩) hHeld ?_; rotate_left; focus (intro w hSw; (try dsimp only at hSw); go_simp; try with_reducible rfl)); simp only [PT]; (refine tk 10 (oi := ⟨some 90, _, _, _, _, _⟩) (v := ?_) rfl (by kernel_rfl) (.inl ⟨by rfl, ?_⟩) hHeld ?_; rotate_left; focus (intro w hSw; (try dsimp only at hSw); go_simp; try with_reducible rfl)); simp only [PT]; refine wpAnyH_ready (rs := [11]) (by kernel_rfl) (by simp) ?_; refine (AllReadyH.cons (o := ⟨none, _, _, _, _, _⟩) rfl (fun K hK => ?_) AllReadyH.nil)
        ((refine z0j rfl 27 (.tmp 9) (.tmp 88) rfl g9 v.cells.toArray rfl rfl HG9.out HBI.out rfl (z0h v) ?_); intro w12 hs__ hr__; replace HB := cg HB bup hr__ (by omega); replace HG4 := cg HG4 bup hr__ (by omega); replace HX := cg HX bup hr__ (by omega); clear HG9; have HG9 := Hd hs__; clear hs__ hr__); refine hK.out _ _ ?_ (fun hHeld => ?_); (focus (exact trivial)); clear hK K; (try simp only [PT]); (refine tk 12 (oi := ⟨some 10, _, _, _, _, _⟩) (v := ?_) rfl (by kernel_rfl) (.inl ⟨by rfl, ?_⟩) hHeld ?_; rotate_left; focus (intro w hSw; (try dsimp only at hSw); go_simp; try with_reducible rfl)); simp only [PT]; (refine tk 13 (oi := ⟨some 11, _, _, _, _, _⟩) (v := ?_) rfl (by kernel_rfl) (.inl ⟨by rfl, ?_⟩) hHeld ?_; rotate_left; focus (intro w hSw; (try dsimp only at hSw); go_simp; try with_reducible rfl)); simp only [PT]; refine wpAnyH_done (by kernel_rfl) ?_ _
        all_goals
          obtain ⟨X, hX⟩ : ∃ X, X = readO G r := ⟨_, rfl⟩
          obtain ⟨X1, X3⟩ := X
          have HXX := Hd hX.symm
          have HQ2 : Hid (getP big l = if X3 = (0, 0) then ({ x with opts := X1 }, N4, 0) else (noneB, 0, 3)) := Hd (by rw [HQ.out]; unfold endP; simp only [← hX])
          clear hX HN
          by_cases hz : X3 = (0, 0)
          rotate_left
          · have HO : Hid (getP big l = (noneB, 0, 3)) := Hd (by rw [HQ2.out, if_neg hz])
            have HB1 := Hd (show true = !decide (X3 = (0, 0)) by simp [hz])
            clear hz HQ HQ2
            go_wp2_with (first
 | (go_at_call 60; (refine (read_any rad rn rc r G _ (HR.out.below (HB.out.trans (Below.mono bup HB.out.size))) (by omega)).mono ?_); intro e w13 hr; rw [HXX.out] at hr; dsimp only at hr; obtain ⟨ad5, n5, c5, os, rfl, how, hvs, hb__⟩ := hr; have HW := Hd (how.base (base' := g9 + 1) (lt_of_block (by exact HG9.out))); have HVS := Hd hvs; have hE__ := cU HB bup hb__; replace HB := ck HB hE__; replace HG4 := ck HG4 hE__; replace HG9 := ck HG9 hE__; replace HX := ck HX hE__; clear hE__; clear hb__ how hvs)
 | ((with_reducible refine sl 13 ?_); (refine z09 rfl 49 rfl (.agg #[.int .i64 0, .int .i64 0]) #[.int .i64 0, .int .i64 0] 2 (by kernel_rfl) rfl ?_); intro w6 g13 he__ le_g13 lt_g13 hg__ hb__; have HG13 := Hd hg__; have le13 : w13.heap.size ≤ g13 := le_g13; have HBA := Hd (show Below w13.heap.size w13 w6 from Below.trans bup hb__); have sz5 := lt_of_block HG9.out; have hE__ := cU HB bup hb__; replace HB := ck HB hE__; replace HG4 := ck HG4 hE__; replace HG9 := ck HG9 hE__; clear hE__; clear hg__ hb__ he__; simp only [PT])
 | ((with_reducible show wpList _ _ _ (⟨none, .store _ (.tmp 13) (.tmp 99), _, _, _, _⟩ :: _) _ _); (refine z02 rfl 49 (.tmp 13) (.tmp 99) rfl g13 (spotC X3).toArray rfl rfl HG13.out HI.out rfl (all1 (spotC X3) rfl) ?_); intro w16 hs__ hr__; replace HB := cg HB bup hr__ (by omega); replace HG4 := cg HG4 bup hr__ (by omega); replace HG9 := cg HG9 bup hr__ (by omega); replace HBA := cg HBA bup hr__ (by omega); replace HW := cW1 HW HBA.out; replace HX := cX1 HX HBA.out; clear HG13; have HG13 := Hd hs__; clear hs__ hr__; simp only [PT])
 | ((with_reducible refine sl 100 ?_); (refine z05 rfl 49 (.tmp 13) rfl g13 0 rfl (spotC X3) _ (z00 HG13.out) Try.underlying49 rfl HI.out ?_); simp only [PT])
 | ((with_reducible refine sl 102 ?_); (refine z3e X3 (0, 0) true HB1.out rfl (.tmp 100) (.tmp 101) rfl rfl rfl ?_); simp only [PT])
 | ((with_reducible show wpList _ _ _ (⟨none, .store _ (.tmp 4) (.tmp 103), _, _, _, _⟩ :: _) _ _); (refine z02 rfl 27 (.tmp 4) (.tmp 103) rfl g4 #[.int .i64 0, .bool false, .int .u32 0, .int .i64 0, .int .u32 0, .int .i64 0, .int .u64 0, .int .u32 0, .slice none 0 0, .slice none 0 0, .slice none 0 0] rfl rfl HG4.out HBI.out rfl (all1 _ rfl) ?_); intro w99 hs__ hr__; replace HB := cg HB bup hr__ (by omega); clear HG4; have HG4 := Hd hs__; clear hs__ hr__; simp only [PT]))
            (try simp only [Exit.inBlock, Exit.then, Exit.noGoto_ret])
            refine z04 (cs := [.int .i64 0, .bool false, .int .u32 0, .int .i64 0, .int .u32 0, .int .i64 0, .int .u64 0, .int .u32 0, .slice none 0 0, .slice none 0 0, .slice none 0 0]) rfl rfl (z00 HG4.out) Try.underlying27 rfl HBI.out rfl ?_
            exact ⟨noneV, by rw [HO.out]; rfl, by rw [HO.out]; rfl, ⟨z1i _ _ _ _, OwnOps.nil _ _ _, OwnOps.nil _ _ _⟩, HB.out⟩
          · have HO : Hid (getP big l = ({ x with opts := X1 }, N4, 0)) := Hd (by rw [HQ2.out, if_pos hz])
            clear HQ HQ2
            subst hz
            go_wp2_with (first
 | (go_at_call 60; (refine (read_any rad rn rc r G _ (HR.out.below (HB.out.trans (Below.mono bup HB.out.size))) (by omega)).mono ?_); intro e w13 hr; rw [HXX.out] at hr; dsimp only at hr; obtain ⟨ad5, n5, c5, os, rfl, how, hvs, hb__⟩ := hr; have HW := Hd (how.base (base' := g9 + 1) (lt_of_block (by exact HG9.out))); have HVS := Hd hvs; have hE__ := cU HB bup hb__; replace HB := ck HB hE__; replace HG4 := ck HG4 hE__; replace HG9 := ck HG9 hE__; replace HX := ck HX hE__; clear hE__; clear hb__ how hvs)
 | ((with_reducible refine sl 13 ?_); (refine z09 rfl 49 rfl (.agg #[.int .i64 0, .int .i64 0]) #[.int .i64 0, .int .i64 0] 2 (by kernel_rfl) rfl ?_); intro w6 g13 he__ le_g13 lt_g13 hg__ hb__; have HG13 := Hd hg__; have le13 : w13.heap.size ≤ g13 := le_g13; have HBA := Hd (show Below w13.heap.size w13 w6 from Below.trans bup hb__); have sz5 := lt_of_block HG9.out; have hE__ := cU HB bup hb__; replace HB := ck HB hE__; replace HG4 := ck HG4 hE__; replace HG9 := ck HG9 hE__; clear hE__; clear hg__ hb__ he__; simp only [PT])
 | ((with_reducible show wpList _ _ _ (⟨none, .store _ (.tmp 13) (.tmp 99), _, _, _, _⟩ :: _) _ _); (refine z02 rfl 49 (.tmp 13) (.tmp 99) rfl g13 (spotC (0, 0)).toArray rfl rfl HG13.out HI.out rfl (all1 (spotC (0, 0)) rfl) ?_); intro w16 hs__ hr__; replace HB := cg HB bup hr__ (by omega); replace HG4 := cg HG4 bup hr__ (by omega); replace HG9 := cg HG9 bup hr__ (by omega); replace HBA := cg HBA bup hr__ (by omega); replace HW := cW1 HW HBA.out; replace HX := cX1 HX HBA.out; clear HG13; have HG13 := Hd hs__; clear hs__ hr__; simp only [PT])
 | ((with_reducible refine sl 100 ?_); (refine z05 rfl 49 (.tmp 13) rfl g13 0 rfl (spotC (0, 0)) _ (z00 HG13.out) Try.underlying49 rfl HI.out ?_); simp only [PT])
 | ((with_reducible refine sl 102 ?_); (refine z3e (0, 0) (0, 0) false (by rfl) rfl (.tmp 100) (.tmp 101) rfl rfl rfl ?_); simp only [PT])
 | ((with_reducible show wpList _ _ _ (⟨none, .store _ (.tmp 105) (.tmp 104), _, _, _, _⟩ :: _) _ _); (refine z0c rfl 25 (.tmp 105) (.tmp 104) rfl g9 10 (.slice ad5 n5 c5) rfl rfl rfl HG9.out (show (10 : Nat) < 11 by decide) (by kernel_rfl) ({ v with oad := ad5, on := n5, oc := c5, os := os } : BlkV).cells.toArray rfl ?_); intro w14 hs__ hr__; replace HB := cg HB bup hr__ (by omega); replace HG4 := cg HG4 bup hr__ (by omega); replace HX := cg HX bup hr__ (by omega); replace HW := cg HW bup hr__ (by omega); clear HG9; have HG9 := Hd hs__; clear hs__ hr__; simp only [PT])
 | ((with_reducible refine sl 106 ?_); (refine z05 rfl 27 (.tmp 9) rfl g9 0 rfl ({ v with oad := ad5, on := n5, oc := c5, os := os } : BlkV).cells _ (z00 HG9.out) Try.underlying27 rfl HBI.out ?_); simp only [PT])
 | ((with_reducible show wpList _ _ _ (⟨none, .store _ (.tmp 4) (.tmp 106), _, _, _, _⟩ :: _) _ _); (refine z02 rfl 27 (.tmp 4) (.tmp 106) rfl g4 ({ v with oad := ad5, on := n5, oc := c5, os := os } : BlkV).cells.toArray rfl rfl HG4.out HBI.out rfl (z0h _) ?_); intro w15 hs__ hr__; replace HB := cg HB bup hr__ (by omega); replace HX := cg HX bup hr__ (by omega); replace HW := cg HW bup hr__ (by omega); clear HG4; have HG4 := Hd hs__; clear hs__ hr__; simp only [PT]))
            (try simp only [Exit.inBlock, Exit.then, Exit.noGoto_ret])
            refine z04 (cs := ({ v with oad := ad5, on := n5, oc := c5, os := os } : BlkV).cells) rfl rfl (z00 HG4.out) Try.underlying27 rfl HBI.out rfl ?_
            refine ⟨{ v with oad := ad5, on := n5, oc := c5, os := os }, by rw [HO.out]; rfl, ?_, ⟨z0r HX.out.1 (by omega), HX.out.2.1.base (by omega), HW.out.base (by omega)⟩, HB.out⟩
            rw [HO.out, ← HVS.out, ← HVAL.out]
            rfl
theorem z13 {P : Program} {w : World} {ops : Array Oper} {rest : List Oper} {o1 o2 : Oper} {a : Act} {Q : Exit → Act → World → Prop} (hg1 : o1.guard = none) (hg2 : o2.guard = none) (T : TypeId) (ho1 : o1.op = .alloc T) (x y : Operand) (ho2 : o2.op = .store T x y)
    (cs zs : Array Value) (hi : (P.info? T).map (fun i => (i.zero, i.size)) = some (some (.agg zs), cs.size)) (hz : zs.size = cs.size) (h1 : cs.all (·.oneCell') = true)
    (hx : ∀ p, (a.put o1.dst p).eval x = p) (hy : ∀ p, (a.put o1.dst p).eval y = .agg cs)
    (h : ∀ w1 g, w.heap.size ≤ g → g < w1.heap.size → w1.heap[g]? = some (.cells cs T (0, 0)) → Below w.heap.size w w1 → wpList P ops Q rest ((a.put o1.dst (.pointer (some ⟨g, 0, none⟩))).put o2.dst undef) w1) :
    wpList P ops Q (o1 :: o2 :: rest) a w :=
  z3c hg1 hg2 T ho1 x y ho2 cs zs hi hz h1 hx hy fun w1 hg hb => h w1 _ (Nat.le_refl _) (lt_of_block hg) hg hb
theorem blkGet_any (ad : Option Addr) (n c : Nat) (l : List UInt8) (big : Bool) (w : World) (hs : Bs w ad n c l) (hn : n ≤ 1000000000) :
    Calls Try.prog 26 #[.slice ad n c, .bool big] w (GetR (getP big l) w) := by
  by_cases h : n < 12
  · exact get_short ad n c l big w hs hn h
  · exact get_long ad n c l big w hs hn (by omega)
theorem z34 (X : PB) (N : Nat) (E : Int) (ad : Option Addr) (n c : Nat) (l : List UInt8) (big : Bool) (hX : getP big l = (X, N, E)) (w : World) (hs : Bs w ad n c l) (hn : n ≤ 1000000000) :
    Calls Try.prog 26 #[.slice ad n c, .bool big] w fun e w' => ∃ v, e = .returned (.tuple #[.agg v.cells.toArray, .int .i64 (N : Int), .int .i64 E]) ∧ v.val = X ∧ OwnBlk w.heap.size w' v ∧ Below w.heap.size w w' := by
  have := blkGet_any ad n c l big w hs hn
  rw [hX] at this
  exact this
theorem blkPut_right (L : List UInt8) (v : BlkV) (big : Bool) (hL : L = bytesB big v.val) (hr : rightP v.val = true) (w : World) (hv : Blk w v) (hf : SmB v) (hw : wfB v.val) :
    Calls Try.prog 23 #[.agg v.cells.toArray, .bool big] w fun e w' => ∃ ad c, e = .returned (.tuple #[.slice ad L.length c, .int .i64 0]) ∧ w'.ownsRow w.heap.size 5 1 (.slice ad L.length c) L.length (BV L) ∧ Below w.heap.size w w' := by
  subst hL
  refine (blkPut_any v big w hv hf hw).mono fun e w' ⟨hb, h⟩ => ?_
  rcases h with ⟨h, _⟩ | ⟨_, h, _⟩ | ⟨_, ad, c, he, ho⟩
  · simp [rightP, h] at hr
  · simp [rightP, h] at hr
  · exact ⟨ad, c, he, ho, hb⟩
def whyP (x : PB) : Int := if mayP x then 4 else 1
theorem blkPut_wrong (v : BlkV) (big : Bool) (hr : rightP v.val = false) (w : World) (hv : Blk w v) (hf : SmB v) (hw : wfB v.val) :
    Calls Try.prog 23 #[.agg v.cells.toArray, .bool big] w fun e w' => e = .returned (.tuple #[.slice none 0 0, .int .i64 (whyP v.val)]) ∧ Below w.heap.size w w' := by
  refine (blkPut_any v big w hv hf hw).mono fun e w' ⟨hb, h⟩ => ?_
  rcases h with ⟨h, rfl⟩ | ⟨h, _, rfl⟩ | ⟨h, _⟩
  · simp only [whyP, h]; exact ⟨rfl, hb⟩
  · simp only [whyP, h]; exact ⟨rfl, hb⟩
  · rw [hr] at h; cases h
theorem SmB.of_size {w : World} {v : BlkV} (hv : Blk w v) (h : mayP v.val = true) (hs : sizeB v.val ≤ 70420) : SmB v := by
  obtain ⟨h1, h2, h3⟩ := size_parts v.val h
  have hl := hv.lens.1
  exact ⟨Nat.le_trans h1 hs, Nat.le_trans h2 hs, by rw [hl]; exact Nat.le_trans h3 (by omega)⟩
theorem refBSame_at (B : Bool) (v u : BlkV) (hB : sameP v.val u.val = B) (w : World) (hv : Blk w v) (hu : Blk w u) :
    Calls Try.prog 22 #[.agg v.cells.toArray, .agg u.cells.toArray] w fun e w' => e = .returned (.bool B) ∧ Below w.heap.size w w' := by
  have := refBlkSame_any v u w hv hu
  rwa [hB] at this
theorem blkRight_at (B : Bool) (v : BlkV) (hB : rightP v.val = B) (w : World) (hv : Blk w v) (hf : SmB v) (hl : wfB v.val) :
    Calls Try.prog 19 #[.agg v.cells.toArray] w fun e w' => e = .returned (.bool B) ∧ Below w.heap.size w w' := by
  have := z33 v w hv hf hl.2.2.2
  rwa [hB] at this
theorem z2e {P : Program} {ops : Array Oper} {rest : List Oper} {o : Oper} {a : Act} {w : World} {Q : Exit → Act → World → Prop} (hgd : Region.wanted o (yielded ops a.tmps) = true) (ty : TypeId) (x : Operand) (ho : o.op = .load ty x)
    (g k : Nat) (hx : a.eval x = .pointer (some ⟨g, k, none⟩)) (v : Value) (hc : w.cell? ⟨g, k, none⟩ = some v) {d : TypeDesc} (hu : P.underlying ty = some d) (hd : d.isRow = false)
    (h : wpList P ops Q rest (a.put o.dst v) w) : wpList P ops Q (o :: rest) a w := by
  refine z23 hgd ?_ h
  have hagg : (isAgg ty).run P w = .ok false w := by
    unfold isAgg
    rw [Sem.run_bind, run_underlying hu w]
    cases d <;> simp_all
  unfold execOp
  simp [ho, hx, Instr.loadAt, Instr.sureAddr, Sem.run_bind, Sem.run_pure, Result.andThen_ok, loadVar, hagg, load, Sem.run, hc]
end Go.Proofs.Ytmfplinbbcoahaa
namespace Go.Proofs.Ytmfplinbbcoahaa
open Go.RowKit Go.Sort Go.Shelf
attribute [local go_sem] Oper.semAt_some
def walkT (t : TypeId) : Bool := t == 83 || t == 27 || t == 80 || t == 44 || t == 4 || t == 22
def KpW (n₀ : Nat) (W W' : World) : Prop := Below n₀ W W' ∧ ∀ (k : Nat) (cs : Array Value) (ty : TypeId), walkT ty = true → W.heap[k]? = some (.cells cs ty (0, 0)) → W'.heap[k]? = some (.cells cs ty (0, 0))
theorem own_rows {w w' : World} {base : Nat} {e : TypeId} {size : Nat} {ad : Option Addr} {n c : Nat} {xs : List Value} (h : w.ownsRow base e size (.slice ad n c) n xs) (hk : ∀ (g : Nat) (cs : Array Value), w.heap[g]? = some (.cells cs e (0, 0)) → w'.heap[g]? = some (.cells cs e (0, 0))) : w'.ownsRow base e size (.slice ad n c) n xs := by
  obtain ⟨h1, h2⟩ := h
  refine ⟨h1, ?_⟩
  rcases h2 with h2 | ⟨g, cap, cur, hv, hg, hh, r⟩
  · exact .inl h2
  · exact .inr ⟨g, cap, cur, hv, hg, hk g cur hh, r⟩
theorem KpW.mem {n₀ : Nat} {W W' : World} {v : StV} (h : StV.mem W v) (hk : KpW n₀ W W') : StV.mem W' v :=
  own_rows (show W.ownsRow 0 22 1 (.slice v.ad v.n v.c) v.n (UV v.sn) from h) fun g cs hg => hk.2 g cs 22 (by decide) hg
def StW (R m : Nat) (A B : World) : Prop := ∃ row, A.grownBy B row ∧ ∀ r, row = some r → r = R ∨ (m ≤ r ∧ ∃ (cs : Array Value) (ty : TypeId), walkT ty = true ∧ A.heap[r]? = some (.cells cs ty (0, 0)))
theorem StW.below {R m : Nat} {A B : World} (h : Below A.heap.size A B) : StW R m A B := ⟨none, ⟨h.os, h.tape, h.output, h.size, fun k hk _ => h.block k hk⟩, fun r e => by cases e⟩
theorem StW.write {R m g : Nat} {A B : World} (hg : A.grownBy B (some g)) (h : g = R ∨ (m ≤ g ∧ ∃ (cs : Array Value) (ty : TypeId), walkT ty = true ∧ A.heap[g]? = some (.cells cs ty (0, 0)))) : StW R m A B := ⟨some g, hg, fun r e => by cases e; exact h⟩
def valX (x : StV × BlkV) : PS × PB := (x.1.val, x.2.val)
def encX (x : StV × BlkV) : Array Value := #[.agg x.1.cells.toArray, .agg x.2.cells.toArray]
def PaX (x : StV × BlkV) (W : World) : Prop := StV.mem W x.1 ∧ Blk W x.2 ∧ SmB x.2 ∧ wfB x.2.val ∧ (x.2.kind = 4 → 0 < x.1.sn.length) ∧ ∀ k ∈ x.1.sn, k < 4294967296
def SX (R : Nat) (vs : List BlkV) (xs : List (StV × BlkV)) (W : World) : Prop := xs.map valX = walkL noS (bvals vs) ∧ W.heap[R]? = some (.cells #[.bool (rightC (bvals vs))] 4 (0, 0))
theorem bvals_split (vs : List BlkV) (k : Nat) (hk : k < vs.length) : bvals vs = bvals (vs.take k) ++ (vs[k].val :: bvals (vs.drop (k + 1))) := by
  have e : vs = vs.take k ++ (vs[k] :: vs.drop (k + 1)) := by rw [List.getElem_cons_drop, List.take_append_drop]
  unfold bvals
  rw [← List.map_cons (f := BlkV.val), ← List.map_append]
  exact congrArg (List.map BlkV.val) e
theorem bvals_take (vs : List BlkV) (k : Nat) (hk : k < vs.length) : bvals (vs.take (k + 1)) = bvals (vs.take k) ++ [vs[k].val] := by
  unfold bvals
  rw [List.take_add_one, List.getElem?_eq_getElem hk, List.map_append]
  rfl
theorem snaps_of (s : StV) (x : BlkV) (u : StV) (h : okS s.val x.val = true) (hu : u.val = nextS s.val x.val) (hk : x.kind = 4) : 0 < u.sn.length := by
  have hk' : x.val.kind = 4 := hk
  unfold okS at h
  rw [if_neg (by omega), if_neg (by omega), if_pos hk'] at h
  have e : u.sn = (nextS s.val x.val).snaps := congrArg PS.snaps hu
  rw [e]
  unfold nextS
  rw [if_neg (by omega), if_neg (by omega)]
  simp at h
  exact h.2
theorem next_small (s : PS) (x : PB) (hs : ∀ k ∈ s.snaps, k < 4294967296) (hx : x.snap < 4294967296) : ∀ k ∈ (nextS s x).snaps, k < 4294967296 := by
  unfold nextS
  split
  · intro k hk; simp at hk
  · split
    · intro k hk
      simp at hk
      rcases hk with hk | rfl
      · exact hs k hk
      · exact hx
    · exact hs
theorem st_small (s : PS) (l : List PB) (hs : ∀ k ∈ s.snaps, k < 4294967296) (hl : ∀ x ∈ l, x.snap < 4294967296) : ∀ k ∈ (stS s l).snaps, k < 4294967296 := by
  induction l generalizing s with
  | nil => exact hs
  | cons x l ih => exact ih _ (next_small s x hs (hl x (by simp))) (fun y hy => hl y (by simp [hy]))
theorem snaps_small (s : StV) (x : BlkV) (u : StV) (vs : List BlkV) (k : Nat) (hu : u.val = nextS s.val x.val) (hs : s.val = stS noS (bvals (vs.take k))) (hall : ∀ v ∈ vs, wfB v.val) (hx : wfB x.val) : ∀ k ∈ u.sn, k < 4294967296 := by
  have e : u.sn = (nextS s.val x.val).snaps := congrArg PS.snaps hu
  rw [e, hs]
  refine next_small _ _ (st_small _ _ (fun k hk => by simp [noS] at hk) fun y hy => ?_) hx.2.1
  obtain ⟨v, hv, rfl⟩ := List.mem_map.1 hy
  exact (hall v (List.mem_of_mem_take hv)).2.1
theorem next_bounds (s : PS) (x : PB) : (nextS s x).sec ≤ s.sec + 1 ∧ (-1 ≤ s.sec → -1 ≤ (nextS s x).sec) ∧ (nextS s x).snaps.length ≤ s.snaps.length + 1 := by
  unfold nextS
  split
  · exact ⟨Int.le_refl _, fun h => by show -1 ≤ s.sec + 1; omega, by simp⟩
  · split
    · exact ⟨by show s.sec ≤ s.sec + 1; omega, fun h => h, by simp⟩
    · exact ⟨by omega, fun h => h, by omega⟩
theorem walk1_in (n : Nat) (hn : 3 ≤ n) (l Br Bl R n₀ : Nat) (ad : Option Addr) (len c : Nat) (vs : List BlkV) (hreach : len ≤ 1000000) (w0 : World) (hn0 : n₀ = w0.heap.size) (hv0 : Blks w0 ad len c vs) (hall : ∀ v ∈ vs, SmB v ∧ wfB v.val)
    (J : List (StV × BlkV) → World → Prop) (W : World) (hw0 : Below w0.heap.size w0 W) (hR0 : n₀ ≤ R)
    (hBr : W.heap[Br]? = some (.cells #[.pointer (some ⟨R, 0, none⟩)] 80 (0, 0))) (hBl : W.heap[Bl]? = some (.cells #[.slice ad len c] 44 (0, 0))) (hRc : ∃ b, W.heap[R]? = some (.cells #[.bool b] 4 (0, 0)))
    (hJ : ∀ s A B, J s A → StW R W.heap.size A B → J s B)
    (hY : ∀ pre x W1, J pre W1 → PaX x W1 → pre.length < len → YieldAt Fence.wide (n - 1) Try.prog l (encX x) W1 fun e W' => e = .returned (.bool true) ∧ J (pre ++ [x]) W' ∧ KpW n₀ W1 W')
    (h0 : J [] W) :
    CallsIn Fence.wide n Try.prog 88 (#[.func (.yield l) #[] #[]] ++ #[.pointer (some ⟨Br, 0, none⟩), .pointer (some ⟨Bl, 0, none⟩)]) W fun e W' => (∃ v, e = .returned v) ∧ ∃ xs, SX R vs xs W' ∧ J xs W' := by
  have HV0 := Hd hv0
  have HJ := Hd hJ
  have HY := Hd hY
  have HALL := Hd hall
  have HJ0 := Hd h0
  have HSI := Hd z3g
  have HBI := Hd z0d
  have HSZ := Hd st_zero
  have HZI := Hd z1s
  have HBr := Hd hBr
  have HBl := Hd hBl
  have HW0 := Hd hw0
  obtain ⟨b0, hRc⟩ := hRc
  have HRc := Hd hRc
  obtain ⟨W0, hW0⟩ : ∃ x, x = W := ⟨_, rfl⟩
  have hF : ∀ f, Fence.wide.fn f := fun _ => trivial
  have h1n : 1 ≤ n := by omega
  clear hv0 hJ hY hall h0 hBr hBl hRc hw0
  refine callsIn_of_wp Try.func88 rfl trivial ?_ rfl
  simp only [Try.ntmps88, List.size_toArray, List.length_cons, List.length_nil, Nat.reduceAdd, Nat.reduceSub, Array.replicate_succ, Array.replicate_zero, List.push_toArray, List.append_toArray, List.nil_append, List.cons_append]
  have HW00 := HW0.out.size
  have hne1 : Br ≠ R := fun e => by subst e; have h := HBr.out.symm.trans HRc.out; simp at h
  have hne2 : Bl ≠ R := fun e => by subst e; have h := HBl.out.symm.trans HRc.out; simp at h
  have lR := lt_of_block HRc.out
  have lBr := lt_of_block HBr.out
  have lBl := lt_of_block HBl.out
  have HBE := Hd (Below.refl W.heap.size W)
  gi_wp2_with (first
 | ((with_reducible refine slI 4 ?_); (refine z1k hF rfl rfl 83 rfl (.tmp 4) (.tmp 9) rfl (⟨-1, false, none, 0, 0, []⟩ : StV).cells.toArray _ HSZ.out rfl (z0v _) (fun _ => rfl) (fun _ => rfl) ?_); intro w4 g4 le_g4 lt_g4 hg__ hb__; have HG4 := Hd hg__; replace HBr := ck HBr hb__; replace HBl := ck HBl hb__; replace HRc := ck HRc hb__; replace HW0 := Hd (HW0.out.trans (hb__.mono HW0.out.size)); have HJ1 := Hd (HJ.out _ _ _ HJ0.out (StW.below hb__)); clear hg__ hb__; simp only [PT])
 | ((with_reducible refine slI 10 ?_); (refine z0e hF rfl 80 (.tmp 1) rfl Br 0 rfl (.pointer (some ⟨R, 0, none⟩)) HBr.out rfl Try.underlying80 rfl ?_); simp only [PT])
 | ((with_reducible show wpListIn _ _ _ _ _ (⟨none, .store _ (.tmp 11) _, _, _, _, _⟩ :: _) _ _); (refine z1j hF rfl 4 (.tmp 11) (.const (.bool false)) rfl R 0 (.bool false) rfl rfl rfl HRc.out (show (0 : Nat) < 1 by decide) (by kernel_rfl) #[.bool false] rfl ?_); intro w5 hs__ hr__; (replace HBr := Hd ((hr__.block Br (lt_of_block HBr.out) (fun e => hne1 (Option.some.inj e))).trans HBr.out)); (replace HBl := Hd ((hr__.block Bl (lt_of_block HBl.out) (fun e => hne2 (Option.some.inj e))).trans HBl.out)); (replace HG4 := Hd ((hr__.block g4 (lt_of_block HG4.out) (fun e => by have := Option.some.inj e; omega)).trans HG4.out)); (replace HW0 := Hd (HW0.out.grown hr__ HW0.out.size (fun k e => by cases e; omega))); (replace HJ1 := Hd (HJ.out _ _ _ HJ1.out (StW.write hr__ (.inl rfl)))); clear HRc; have HRc := Hd hs__; clear hs__ hr__; simp only [PT])
 | ((with_reducible refine slI 12 ?_); (refine z0e hF rfl 44 (.tmp 2) rfl Bl 0 rfl (.slice ad len c) HBl.out rfl Try.underlying44 rfl ?_); simp only [PT]))
  gi_loopw [14] (fun i wr => ∃ (k : Nat) (st : StV) (xs : List (StV × BlkV)), k ≤ len ∧ i = .int .i64 k ∧ Hid (allS noS (bvals (vs.take k)) = true) ∧ Hid (xs.map valX = walkL noS (bvals (vs.take k))) ∧ Hid (st.val = stS noS (bvals (vs.take k))) ∧ st.sec + 1 ≤ k ∧ -1 ≤ st.sec ∧ st.n ≤ k ∧ xs.length = k ∧ Hid (J xs wr) ∧ Hid (StV.mem wr st) ∧ Hid (wr.heap[g4]? = some (.cells st.cells.toArray 83 (0, 0))) ∧ Hid (Below w0.heap.size w0 wr) ∧ Hid (wr.heap[R]? = some (.cells #[.bool false] 4 (0, 0))) ∧ Hid (wr.heap[Br]? = some (.cells #[.pointer (some ⟨R, 0, none⟩)] 80 (0, 0))) ∧ Hid (wr.heap[Bl]? = some (.cells #[.slice ad len c] 44 (0, 0)))) (fun i _ => len - (intOf i).toNat)
  case atStart => exact ⟨0, ⟨-1, false, none, 0, 0, []⟩, [], by omega, rfl, Hd rfl, Hd rfl, Hd rfl, by simp, by simp, by simp, rfl, HJ1, Hd (World.ownsRow_nil _ _ _ _), HG4, HW0, HRc, HBr, HBl⟩
  case round =>
    obtain ⟨k, st, xs, hk, rfl, HA, HXS, HST, hsec1, hsec0, hstn, hxl, HJx, HM, HG4', HW', HRc', HBr', HBl'⟩ := hrel
    clear HG4 HW0 HRc HBr HBl HJ1 HJ0
    have HG4 := HG4'
    have HW := HW'
    have HRc := HRc'
    have HBr := HBr'
    have HBl := HBl'
    clear HG4' HW' HRc' HBr' HBl'
    have HSL := Hd (Us.len (StV.us HM.out))
    have hln := HV0.out.len
    by_cases hlt : k < len
    · obtain ⟨x, hx⟩ : ∃ x, x = vs[k]'(by omega) := ⟨_, rfl⟩
      have HMEM : Hid (x ∈ vs) := Hd (by rw [hx]; exact List.getElem_mem _)
      obtain ⟨b, off, rfl, hbl, hat⟩ := (HV0.out.below HW.out).at (by omega)
      have HR := Hd (show wr.rangeAt b (off + k * 11) x.cells by rw [hx]; exact hat k (by omega))
      have HSP : Hid (bvals vs = bvals (vs.take k) ++ (x.val :: bvals (vs.drop (k + 1)))) := Hd (by rw [hx]; exact bvals_split vs k (by omega))
      have HTK : Hid (bvals (vs.take (k + 1)) = bvals (vs.take k) ++ [x.val]) := Hd (by rw [hx]; exact bvals_take vs k (by omega))
      clear hat hx hln
      cases hok : okS st.val x.val
      · have HOK := Hd hok
        have HGO : Hid (goS (stS noS (bvals (vs.take k))) x.val = false) := Hd (by rw [← HST.out]; unfold goS; rw [hok]; rfl)
        clear hok
        gi_wp2_with (first
 | ((with_reducible refine slI 17 ?_); (refine z1b hF rfl 27 (.tmp 16) rfl b (off + k * 11) rfl x.cells _ HR.out Try.underlying27 rfl HBI.out ?_); simp only [PT])
 | ((with_reducible refine slI 6 ?_); (refine z1k hF rfl rfl 27 rfl (.tmp 6) (.tmp 17) rfl x.cells.toArray _ HZI.out rfl (z0h _) (fun _ => rfl) (fun _ => rfl) ?_); intro w6 g6 le_g6 lt_g6 hg__ hb__; have HG6 := Hd hg__; replace HJx := Hd (HJ.out _ _ _ HJx.out (StW.below hb__)); replace HM := ck HM hb__; replace HG4 := ck HG4 hb__; replace HW := ck HW hb__; replace HRc := ck HRc hb__; replace HBr := ck HBr hb__; replace HBl := ck HBl hb__; clear hg__ hb__; simp only [PT])
 | ((with_reducible refine slI 19 ?_); (refine z1b hF rfl 83 (.tmp 4) rfl g4 0 rfl st.cells _ (z00 HG4.out) Try.underlying83 rfl HSI.out ?_); simp only [PT])
 | ((with_reducible refine slI 20 ?_); (refine z1b hF rfl 27 (.tmp 6) rfl g6 0 rfl x.cells _ (z00 HG6.out) Try.underlying27 rfl HBI.out ?_); simp only [PT])
 | (gi_at_call 67; (refine (callsIn_wide.2 (step_any st x _ HM.out ⟨hsec0, by omega⟩ (by omega))).mono ?_); intro e w7 hr; unfold StepR at hr; rw [HOK.out] at hr; obtain ⟨u, rfl, hval, hmem, hb__⟩ := hr; replace HJx := Hd (HJ.out _ _ _ HJx.out (StW.below hb__)); replace HM := ck HM hb__; replace HG4 := ck HG4 hb__; replace HW := ck HW hb__; replace HRc := ck HRc hb__; replace HBr := ck HBr hb__; replace HBl := ck HBl hb__; replace HG6 := ck HG6 hb__; have HU := Hd hmem; have HUV := Hd hval; clear hmem hval hb__)
 | ((with_reducible refine slI 7 ?_); (refine z1k hF rfl rfl 83 rfl (.tmp 7) (.tmp 22) rfl u.cells.toArray _ HSZ.out rfl (z0v _) (fun _ => rfl) (fun _ => rfl) ?_); intro w8 g7 le_g7 lt_g7 hg__ hb__; have HG7 := Hd hg__; replace HJx := Hd (HJ.out _ _ _ HJx.out (StW.below hb__)); replace HM := ck HM hb__; replace HG4 := ck HG4 hb__; replace HW := ck HW hb__; replace HRc := ck HRc hb__; replace HBr := ck HBr hb__; replace HBl := ck HBl hb__; replace HG6 := ck HG6 hb__; replace HU := ck HU hb__; clear hg__ hb__; simp only [PT]))
        refine bodyPost_ret (results_none rfl _ _ _) rfl ?_
        refine ⟨⟨_, rfl⟩, xs, ⟨?_, ?_⟩, HJx.out⟩
        · rw [HXS.out, HSP.out, walkL_stop _ _ _ _ HA.out HGO.out]
        · rw [show rightC (bvals vs) = false by unfold rightC; rw [HSP.out, allS_stop _ _ _ _ HGO.out]; rfl]
          exact HRc.out
      · have HOK := Hd hok
        cases hrt : rightP x.val
        · have HRT := Hd hrt
          have HGO : Hid (goS (stS noS (bvals (vs.take k))) x.val = false) := Hd (by rw [← HST.out]; unfold goS; rw [hok, hrt]; rfl)
          clear hok hrt
          gi_wp2_with (first
 | ((with_reducible refine slI 17 ?_); (refine z1b hF rfl 27 (.tmp 16) rfl b (off + k * 11) rfl x.cells _ HR.out Try.underlying27 rfl HBI.out ?_); simp only [PT])
 | ((with_reducible refine slI 6 ?_); (refine z1k hF rfl rfl 27 rfl (.tmp 6) (.tmp 17) rfl x.cells.toArray _ HZI.out rfl (z0h _) (fun _ => rfl) (fun _ => rfl) ?_); intro w6 g6 le_g6 lt_g6 hg__ hb__; have HG6 := Hd hg__; replace HJx := Hd (HJ.out _ _ _ HJx.out (StW.below hb__)); replace HM := ck HM hb__; replace HG4 := ck HG4 hb__; replace HW := ck HW hb__; replace HRc := ck HRc hb__; replace HBr := ck HBr hb__; replace HBl := ck HBl hb__; clear hg__ hb__; simp only [PT])
 | ((with_reducible refine slI 19 ?_); (refine z1b hF rfl 83 (.tmp 4) rfl g4 0 rfl st.cells _ (z00 HG4.out) Try.underlying83 rfl HSI.out ?_); simp only [PT])
 | ((with_reducible refine slI 20 ?_); (refine z1b hF rfl 27 (.tmp 6) rfl g6 0 rfl x.cells _ (z00 HG6.out) Try.underlying27 rfl HBI.out ?_); simp only [PT])
 | (gi_at_call 67; (refine (callsIn_wide.2 (step_any st x _ HM.out ⟨hsec0, by omega⟩ (by omega))).mono ?_); intro e w7 hr; unfold StepR at hr; rw [HOK.out] at hr; obtain ⟨u, rfl, hval, hmem, hb__⟩ := hr; replace HJx := Hd (HJ.out _ _ _ HJx.out (StW.below hb__)); replace HM := ck HM hb__; replace HG4 := ck HG4 hb__; replace HW := ck HW hb__; replace HRc := ck HRc hb__; replace HBr := ck HBr hb__; replace HBl := ck HBl hb__; replace HG6 := ck HG6 hb__; have HU := Hd hmem; have HUV := Hd hval; clear hmem hval hb__)
 | ((with_reducible refine slI 7 ?_); (refine z1k hF rfl rfl 83 rfl (.tmp 7) (.tmp 22) rfl u.cells.toArray _ HSZ.out rfl (z0v _) (fun _ => rfl) (fun _ => rfl) ?_); intro w8 g7 le_g7 lt_g7 hg__ hb__; have HG7 := Hd hg__; replace HJx := Hd (HJ.out _ _ _ HJx.out (StW.below hb__)); replace HM := ck HM hb__; replace HG4 := ck HG4 hb__; replace HW := ck HW hb__; replace HRc := ck HRc hb__; replace HBr := ck HBr hb__; replace HBl := ck HBl hb__; replace HG6 := ck HG6 hb__; replace HU := ck HU hb__; clear hg__ hb__; simp only [PT])
 | ((with_reducible refine slI 27 ?_); (refine z1b hF rfl 27 (.tmp 6) rfl g6 0 rfl x.cells _ (z00 HG6.out) Try.underlying27 rfl HBI.out ?_); simp only [PT])
 | (gi_at_call 19; (refine (callsIn_wide.2 (blkRight_at _ x HRT.out _ ((HV0.out.2 x HMEM.out).below HW.out) (HALL.out x HMEM.out).1 (HALL.out x HMEM.out).2)).mono ?_); intro e w9 hr; obtain ⟨rfl, hb__⟩ := hr; replace HJx := Hd (HJ.out _ _ _ HJx.out (StW.below hb__)); replace HM := ck HM hb__; replace HG4 := ck HG4 hb__; replace HW := ck HW hb__; replace HRc := ck HRc hb__; replace HBr := ck HBr hb__; replace HBl := ck HBl hb__; replace HG6 := ck HG6 hb__; replace HU := ck HU hb__; replace HG7 := ck HG7 hb__; clear hb__))
          refine bodyPost_ret (results_none rfl _ _ _) rfl ?_
          refine ⟨⟨_, rfl⟩, xs, ⟨?_, ?_⟩, HJx.out⟩
          · rw [HXS.out, HSP.out, walkL_stop _ _ _ _ HA.out HGO.out]
          · rw [show rightC (bvals vs) = false by unfold rightC; rw [HSP.out, allS_stop _ _ _ _ HGO.out]; rfl]
            exact HRc.out
        · have HRT := Hd hrt
          have HGO : Hid (goS (stS noS (bvals (vs.take k))) x.val = true) := Hd (by rw [← HST.out]; unfold goS; rw [hok, hrt]; rfl)
          clear hok hrt
          gi_wp2_with (first
 | ((with_reducible refine slI 17 ?_); (refine z1b hF rfl 27 (.tmp 16) rfl b (off + k * 11) rfl x.cells _ HR.out Try.underlying27 rfl HBI.out ?_); simp only [PT])
 | ((with_reducible refine slI 6 ?_); (refine z1k hF rfl rfl 27 rfl (.tmp 6) (.tmp 17) rfl x.cells.toArray _ HZI.out rfl (z0h _) (fun _ => rfl) (fun _ => rfl) ?_); intro w6 g6 le_g6 lt_g6 hg__ hb__; have HG6 := Hd hg__; replace HJx := Hd (HJ.out _ _ _ HJx.out (StW.below hb__)); replace HM := ck HM hb__; replace HG4 := ck HG4 hb__; replace HW := ck HW hb__; replace HRc := ck HRc hb__; replace HBr := ck HBr hb__; replace HBl := ck HBl hb__; clear hg__ hb__; simp only [PT])
 | ((with_reducible refine slI 19 ?_); (refine z1b hF rfl 83 (.tmp 4) rfl g4 0 rfl st.cells _ (z00 HG4.out) Try.underlying83 rfl HSI.out ?_); simp only [PT])
 | ((with_reducible refine slI 20 ?_); (refine z1b hF rfl 27 (.tmp 6) rfl g6 0 rfl x.cells _ (z00 HG6.out) Try.underlying27 rfl HBI.out ?_); simp only [PT])
 | (gi_at_call 67; (refine (callsIn_wide.2 (step_any st x _ HM.out ⟨hsec0, by omega⟩ (by omega))).mono ?_); intro e w7 hr; unfold StepR at hr; rw [HOK.out] at hr; obtain ⟨u, rfl, hval, hmem, hb__⟩ := hr; replace HJx := Hd (HJ.out _ _ _ HJx.out (StW.below hb__)); replace HM := ck HM hb__; replace HG4 := ck HG4 hb__; replace HW := ck HW hb__; replace HRc := ck HRc hb__; replace HBr := ck HBr hb__; replace HBl := ck HBl hb__; replace HG6 := ck HG6 hb__; have HU := Hd hmem; have HUV := Hd hval; clear hmem hval hb__)
 | ((with_reducible refine slI 7 ?_); (refine z1k hF rfl rfl 83 rfl (.tmp 7) (.tmp 22) rfl u.cells.toArray _ HSZ.out rfl (z0v _) (fun _ => rfl) (fun _ => rfl) ?_); intro w8 g7 le_g7 lt_g7 hg__ hb__; have HG7 := Hd hg__; replace HJx := Hd (HJ.out _ _ _ HJx.out (StW.below hb__)); replace HM := ck HM hb__; replace HG4 := ck HG4 hb__; replace HW := ck HW hb__; replace HRc := ck HRc hb__; replace HBr := ck HBr hb__; replace HBl := ck HBl hb__; replace HG6 := ck HG6 hb__; replace HU := ck HU hb__; clear hg__ hb__; simp only [PT])
 | ((with_reducible refine slI 27 ?_); (refine z1b hF rfl 27 (.tmp 6) rfl g6 0 rfl x.cells _ (z00 HG6.out) Try.underlying27 rfl HBI.out ?_); simp only [PT])
 | (gi_at_call 19; (refine (callsIn_wide.2 (blkRight_at _ x HRT.out _ ((HV0.out.2 x HMEM.out).below HW.out) (HALL.out x HMEM.out).1 (HALL.out x HMEM.out).2)).mono ?_); intro e w9 hr; obtain ⟨rfl, hb__⟩ := hr; replace HJx := Hd (HJ.out _ _ _ HJx.out (StW.below hb__)); replace HM := ck HM hb__; replace HG4 := ck HG4 hb__; replace HW := ck HW hb__; replace HRc := ck HRc hb__; replace HBr := ck HBr hb__; replace HBl := ck HBl hb__; replace HG6 := ck HG6 hb__; replace HU := ck HU hb__; replace HG7 := ck HG7 hb__; clear hb__; obtain ⟨fn, tmps, assign, body, hy, hR⟩ := HY.out xs (u, x) w9 HJx.out ⟨HU.out, (HV0.out.2 x HMEM.out).below HW.out, (HALL.out x HMEM.out).1, (HALL.out x HMEM.out).2, snaps_of st x u HOK.out HUV.out, snaps_small st x u vs k HUV.out HST.out (fun v hv => (HALL.out v hv).2) (HALL.out x HMEM.out).2⟩ (by rw [hxl]; exact hlt); simp only [encX] at hy)
 | ((with_reducible refine slI 33 ?_); (refine z1b hF rfl 83 (.tmp 7) rfl g7 0 rfl u.cells _ (z00 HG7.out) Try.underlying83 rfl HSI.out ?_); simp only [PT])
 | ((with_reducible refine slI 34 ?_); (refine z1b hF rfl 27 (.tmp 6) rfl g6 0 rfl x.cells _ (z00 HG6.out) Try.underlying27 rfl HBI.out ?_); simp only [PT]))
          refine hR.mono ?_
          rintro e W3 ⟨rfl, hJ3, hk3⟩
          have h83 : walkT 83 = true := by decide
          have l4 := lt_of_block HG4.out
          have HG4c := Hd (hk3.2 _ _ _ h83 HG4.out)
          have HG7c := Hd (hk3.2 _ _ _ h83 HG7.out)
          have HRcc := Hd (hk3.2 _ _ _ (show walkT 4 = true by decide) HRc.out)
          have HBrc := Hd (hk3.2 _ _ _ (show walkT 80 = true by decide) HBr.out)
          have HBlc := Hd (hk3.2 _ _ _ (show walkT 44 = true by decide) HBl.out)
          have HUc := Hd (KpW.mem HU.out hk3)
          have HWc := Hd (HW.out.trans (hk3.1.mono (Nat.le_of_eq hn0.symm)))
          have HJc := Hd hJ3
          clear hJ3 hk3 hR hy HG4 HG7 HRc HBr HBl HU HW HJx HM HG6
          gi_wp2_with (first
 | ((with_reducible refine slI 38 ?_); (refine z1b hF rfl 83 (.tmp 7) rfl g7 0 rfl u.cells _ (z00 HG7c.out) Try.underlying83 rfl HSI.out ?_); simp only [PT])
 | ((with_reducible show wpListIn _ _ _ _ _ (⟨none, .store _ (.tmp 4) _, _, _, _, _⟩ :: _) _ _); (refine wpLI_storeRow hF rfl 83 (.tmp 4) (.tmp 38) rfl g4 u.cells.toArray rfl rfl HG4c.out HSI.out rfl (z0v u) ?_); intro w11 hs__ hr__; (replace HJc := Hd (HJ.out _ _ _ HJc.out (StW.write hr__ (.inr ⟨le_g4, _, _, h83, HG4c.out⟩)))); (replace HUc := Hd (StV.write HUc.out hr__ HG4c.out (by decide))); (replace HWc := Hd (HWc.out.grown hr__ HWc.out.size (fun k e => by cases e; exact Nat.le_trans HW00 le_g4))); (replace HRcc := Hd ((hr__.block R (lt_of_block HRcc.out) (fun e => by have := Option.some.inj e; omega)).trans HRcc.out)); (replace HBrc := Hd ((hr__.block Br (lt_of_block HBrc.out) (fun e => by have := Option.some.inj e; omega)).trans HBrc.out)); (replace HBlc := Hd ((hr__.block Bl (lt_of_block HBlc.out) (fun e => by have := Option.some.inj e; omega)).trans HBlc.out)); clear HG4c; have HG4c := Hd hs__; clear hs__ hr__; simp only [PT]))
          have hnb := next_bounds st.val x.val
          rw [← HUV.out] at hnb
          have e1 : u.sec ≤ st.sec + 1 := hnb.1
          have e2 : -1 ≤ u.sec := hnb.2.1 hsec0
          have e3 : u.sn.length ≤ st.sn.length + 1 := hnb.2.2
          have e4 : u.n ≤ k + 1 := by have h1 := Us.len (StV.us HUc.out); have h2 := HSL.out; omega
          clear hnb e3
          go_roundw
          case rel => exact ⟨k + 1, u, xs ++ [(u, x)], by omega, by go_num, Hd (by rw [HTK.out, allS_snoc, HA.out, HGO.out]; rfl), Hd (by rw [HTK.out, walkL_append _ _ _ HA.out, List.map_append, HXS.out]; simp only [walkL, HGO.out, if_true, List.map_cons, List.map_nil, valX]; rw [HUV.out, HST.out]), Hd (by rw [HTK.out, stS_snoc, ← HST.out, HUV.out]), by omega, e2, e4, by rw [List.length_append, hxl]; rfl, HJc, HUc, HG4c, HWc, HRcc, HBrc, HBlc⟩
          case measure => first | (simp [intOf]; done) | (simp [intOf]; omega)
    · obtain rfl : k = len := by omega
      have HALLV : Hid (bvals (vs.take k) = bvals vs) := Hd (by rw [List.take_of_length_le (by omega)])
      have HVL : Hid (vs.length = k) := Hd hln.symm
      clear hln
      have hF1 : ∀ b : Bool, b = decide (0 < k) → rightC (bvals vs) = b := fun b hb => by
        unfold rightC
        rw [← HALLV.out, HA.out, HALLV.out, z2k, HVL.out, hb]
        rfl
      have HF1 := Hd hF1
      clear hF1
      by_cases h0 : k = 0
      · have HFB := Hd (HF1.out false (by rw [h0]; rfl))
        subst h0
        gi_wp2_with (first
 | ((with_reducible refine slI 40 ?_); (refine z0e hF rfl 80 (.tmp 1) rfl Br 0 rfl (.pointer (some ⟨R, 0, none⟩)) HBr.out rfl Try.underlying80 rfl ?_); simp only [PT])
 | ((with_reducible refine slI 41 ?_); (refine z0e hF rfl 44 (.tmp 2) rfl Bl 0 rfl (.slice ad 0 c) HBl.out rfl Try.underlying44 rfl ?_); simp only [PT])
 | ((with_reducible show wpListIn _ _ _ _ _ (⟨none, .store _ (.tmp 44) _, _, _, _, _⟩ :: _) _ _); (refine z1j hF rfl 4 (.tmp 44) (.tmp 43) rfl R 0 (.bool false) rfl (by first | rfl | (simp [*]; done)) rfl HRc.out (show (0 : Nat) < 1 by decide) (by kernel_rfl) #[.bool false] rfl ?_); intro w5 hs__ hr__; have HJe := Hd (HJ.out _ _ _ HJx.out (StW.write hr__ (.inl rfl))); have HRe := Hd hs__; clear hs__ hr__; simp only [PT]))
        go_end0
        exact ⟨⟨_, rfl⟩, xs, ⟨by rw [HXS.out, HALLV.out], by rw [HFB.out]; exact HRe.out⟩, HJe.out⟩
      · have HFB := Hd (HF1.out true (by simp; omega))
        have hk0 : 0 < k := by omega
        have hki : (0 : Int) < (k : Int) := by omega
        gi_wp2_with (first
 | ((with_reducible refine slI 40 ?_); (refine z0e hF rfl 80 (.tmp 1) rfl Br 0 rfl (.pointer (some ⟨R, 0, none⟩)) HBr.out rfl Try.underlying80 rfl ?_); simp only [PT])
 | ((with_reducible refine slI 41 ?_); (refine z0e hF rfl 44 (.tmp 2) rfl Bl 0 rfl (.slice ad k c) HBl.out rfl Try.underlying44 rfl ?_); simp only [PT])
 | ((with_reducible show wpListIn _ _ _ _ _ (⟨none, .store _ (.tmp 44) _, _, _, _, _⟩ :: _) _ _); (refine z1j hF rfl 4 (.tmp 44) (.tmp 43) rfl R 0 (.bool true) rfl (by first | rfl | (simp [*]; done)) rfl HRc.out (show (0 : Nat) < 1 by decide) (by kernel_rfl) #[.bool true] rfl ?_); intro w5 hs__ hr__; have HJe := Hd (HJ.out _ _ _ HJx.out (StW.write hr__ (.inl rfl))); have HRe := Hd hs__; clear hs__ hr__; simp only [PT]))
        go_end0
        exact ⟨⟨_, rfl⟩, xs, ⟨by rw [HXS.out, HALLV.out], by rw [HFB.out]; exact HRe.out⟩, HJe.out⟩
attribute [local go_sem] Oper.semAt_some
theorem walk_any (p : Option Addr) (ad : Option Addr) (n c : Nat) (w : World) :
    Calls Try.prog 64 #[.slice ad n c, .pointer p] w fun e w' => ∃ Br Bl, e = .returned (.func (.func 88) #[] #[.pointer (some ⟨Br, 0, none⟩), .pointer (some ⟨Bl, 0, none⟩)]) ∧ w'.heap[Br]? = some (.cells #[.pointer p] 80 (0, 0)) ∧ w'.heap[Bl]? = some (.cells #[.slice ad n c] 44 (0, 0)) ∧ Below w.heap.size w w' := by
  have HB := Hd (Below.refl w.heap.size w)
  go_enter Try.func64, Try.ntmps64
  go_wp2_with (first
 | ((with_reducible refine sl 2 ?_); (refine z0a rfl 44 (.tmp 0) rfl #[.slice ad n c] rfl ?_); intro w2 g2 he__ le_g2 lt_g2 hg__ hb__; have HG2 := Hd hg__; have hE__ := cU HB bup hb__; replace HB := ck HB hE__; clear hE__; clear hg__ hb__ he__; simp only [PT])
 | ((with_reducible refine sl 3 ?_); (refine z0a rfl 80 (.tmp 1) rfl #[.pointer p] rfl ?_); intro w3 g3 he__ le_g3 lt_g3 hg__ hb__; have HG3 := Hd hg__; have hE__ := cU HB bup hb__; replace HB := ck HB hE__; replace HG2 := ck HG2 hE__; clear hE__; clear hg__ hb__ he__; simp only [PT]))
  go_ret
  exact ⟨g3, g2, rfl, HG3.out, HG2.out, HB.out⟩
theorem KpW.trans {n₀ : Nat} {A B C : World} (h : KpW n₀ A B) (k : KpW n₀ B C) : KpW n₀ A C := ⟨h.1.trans k.1, fun i cs ty ht hi => k.2 i cs ty ht (h.2 i cs ty ht hi)⟩
theorem KpW.refl (n₀ : Nat) (A : World) : KpW n₀ A A := ⟨Below.refl _ _, fun i cs ty ht hi => hi⟩
theorem KpW.of_below {n₀ : Nat} {A B : World} (h : Below A.heap.size A B) (hn : n₀ ≤ A.heap.size) : KpW n₀ A B := ⟨h.mono hn, fun k cs ty _ hk => (h.block k (lt_of_block hk)).trans hk⟩
theorem KpW.put {n₀ m : Nat} (hn : n₀ ≤ m) (W : World) (l : Nat) (o o' : Obj) (hl : m ≤ l) (ho : W.heap[l]? = some o) (hc : o.isCells = false) (hw : o.isWalk = false) : KpW n₀ W (W.putObj l o') :=
  ⟨(Below.refl n₀ W).grown (grownBy_putObj' W l o') (by have := lt_of_block ho; omega) (fun k e => by cases e; omega), fun k cs ty _ hk => by
    by_cases e : k = l
    · subst e; rw [ho] at hk; cases hk; cases hc
    · exact (World.putObj_heap_other (fun h => e h)).trans hk⟩
theorem StW.other {R m : Nat} {A B : World} {k : Nat} {ob : Obj} (h : StW R m A B) (hk : k < m) (hR : k ≠ R) (hA : A.heap[k]? = some ob) : B.heap[k]? = some ob := by
  obtain ⟨row, hg, hr⟩ := h
  refine (hg.block k (lt_of_block hA) (fun e => ?_)).trans hA
  rcases hr k e.symm with h | ⟨h, _⟩
  · exact hR h
  · omega
theorem StW.keeps {R m B0 : Nat} {w A B : World} (h : StW R m A B) (hb : Below B0 w A) (hw : B0 ≤ w.heap.size) (hR : B0 ≤ R) (hm : B0 ≤ m) : Below B0 w B := by
  obtain ⟨row, hg, hr⟩ := h
  refine hb.grown hg (Nat.le_trans hw hb.size) (fun k e => ?_)
  rcases hr k e with h | ⟨h, _⟩
  · omega
  · omega
theorem ownFrom_cells {α : Type} (B R : Nat) (f : α → Array Value) (ty : TypeId) (p : α → Prop) : OwnFrom B (fun s W => p s ∧ W.heap[R]? = some (.cells (f s) ty (0, 0))) :=
  fun s W W' row hs hg hr => ⟨hs.1, (hg.block R (lt_of_block hs.2) (fun e => by
    obtain ⟨_, o, ho, hc⟩ := hr R e.symm
    rw [hs.2] at ho
    cases ho
    simp [Obj.isCells] at hc)).trans hs.2⟩
theorem walk_seq (m : Nat) (hm : 3 ≤ m) (Br Bl R : Nat) (ad : Option Addr) (len c : Nat) (vs : List BlkV) (hreach : len ≤ 1000000) (w0 w1 : World) (hv0 : Blks w0 ad len c vs) (hall : ∀ v ∈ vs, SmB v ∧ wfB v.val) (hw0 : Below w0.heap.size w0 w1) (hR0 : w0.heap.size ≤ R)
    (hBr : w1.heap[Br]? = some (.cells #[.pointer (some ⟨R, 0, none⟩)] 80 (0, 0))) (hBl : w1.heap[Bl]? = some (.cells #[.slice ad len c] 44 (0, 0))) (hRc : ∃ b, w1.heap[R]? = some (.cells #[.bool b] 4 (0, 0))) :
    SeqAll Fence.wide m Try.prog 88 #[.pointer (some ⟨Br, 0, none⟩), .pointer (some ⟨Bl, 0, none⟩)] encX (KpW w0.heap.size) (StW R) (SX R vs) PaX len w1 := fun l J W hW hJ hY h0 => by
  obtain ⟨b, hb⟩ := hRc
  exact walk1_in m hm l Br Bl R w0.heap.size ad len c vs hreach w0 rfl hv0 hall J W (hw0.trans (hW.mono hw0.size)) hR0 ((hW.block _ (lt_of_block hBr)).trans hBr) ((hW.block _ (lt_of_block hBl)).trans hBl) ⟨b, (hW.block _ (lt_of_block hb)).trans hb⟩ hJ hY h0
theorem pcRight_any (ad : Option Addr) (n c : Nat) (vs : List BlkV) (w : World) (hv : Blks w ad n c vs) (hn : n ≤ 1000000) (hall : ∀ v ∈ vs, SmB v ∧ wfB v.val) :
    Calls Try.prog 32 #[.slice ad n c] w fun e w' => e = .returned (.bool (rightC (bvals vs))) ∧ Below w.heap.size w w' := by
  have HB := Hd (Below.refl w.heap.size w)
  have HV := Hd hv
  have HALL := Hd hall
  clear hv hall
  refine (callsIn_wide (n := 8)).1 (callsIn_of_wp_marks Try.func32 rfl trivial (wpIn_wide.2 ?_) rfl)
  simp only [Try.ntmps32, List.size_toArray, List.length_cons, List.length_nil, Nat.reduceAdd, Nat.reduceSub, Array.replicate_succ, Array.replicate_zero, List.push_toArray, List.append_toArray, List.nil_append, List.cons_append]
  go_wp2_with (first
 | ((with_reducible refine sl 3 ?_); (refine z09 rfl 4 rfl (.bool false) #[.bool false] 1 (by kernel_rfl) rfl ?_); intro w3 g3 he__ le_g3 lt_g3 hg__ hb__; have HG3 := Hd hg__; have hE__ := cU HB bup hb__; replace HB := ck HB hE__; clear hE__; clear hg__ hb__ he__; simp only [PT])
 | ((with_reducible show wpList _ _ _ (⟨none, .store _ (.tmp 3) _, _, _, _, _⟩ :: _) _ _); (refine z0c rfl 4 (.tmp 3) (.const (.bool false)) rfl g3 0 (.bool false) rfl rfl rfl HG3.out (show (0 : Nat) < 1 by decide) (by kernel_rfl) #[.bool false] rfl ?_); intro w4 hs__ hr__; replace HB := cg HB bup hr__ le_g3; clear HG3; have HG3 := Hd hs__; clear hs__ hr__; simp only [PT])
 | (go_at_call 64; (refine (walk_any (some ⟨g3, 0, none⟩) ad n c _).mono ?_); intro e w5 hr; obtain ⟨Br, Bl, rfl, hBr, hBl, hb__⟩ := hr; have hE__ := cU HB bup hb__; replace HB := ck HB hE__; replace HG3 := ck HG3 hE__; clear hE__; have HBr := Hd hBr; have HBl := Hd hBl; clear hb__ hBr hBl))
  refine (wpIn_wide (n := 8)).1 ?_
  have hsz := HB.out.size
  have lt5 := lt_of_block HG3.out
  refine z2m rfl (by omega) (gf := 88) (lb := #[.pointer (some ⟨Br, 0, none⟩), .pointer (some ⟨Bl, 0, none⟩)]) rfl trivial (enters_of Try.func88 (by kernel_rfl) rfl)
    (walk_seq _ (by omega) Br Bl g3 ad n c vs hn w w5 HV.out HALL.out HB.out le_g3 HBr.out HBl.out ⟨_, HG3.out⟩) KpW.trans (KpW.put hsz) (Below.refl _ _) (fun _ => rfl)
    (fun m A B k ob st hk hkm _ hA => st.other hkm (by omega) hA)
    (fun _ W => Below w.heap.size w W) (ownFrom_below (Nat.le_refl _) hsz) (fun s A B m hm hi st => st.keeps hi (Nat.le_refl _) le_g3 (Nat.le_trans hsz hm))
    (ownFrom_cells _ g3 _ _ _) HB.out (fun x a' _ => a' = ⟨#[.slice ad n c, undef, .bool false, .pointer (some ⟨g3, 0, none⟩), .slice ad n c, .func (.func 88) #[] #[.pointer (some ⟨Br, 0, none⟩), .pointer (some ⟨Bl, 0, none⟩)], .agg x.1.cells.toArray, .agg x.2.cells.toArray, undef], []⟩) (fun _ _ _ _ _ _ hs _ _ => hs) ?assign ?body ?done
  case assign =>
    intro l pre x W K hI hP hK
    simp only [encX]
    gi_wp2
    exact hK _ _ (KeepsFrom.refl _ _) (KpW.refl _ _) hI (by simp)
  case body =>
    rintro l pre x a' W hl hI rfl hlt
    gi_wp2
    exact ⟨KeepsFrom.refl _ _, KpW.refl _ _, hI⟩
  case done =>
    rintro D xs W hD ⟨-, hR⟩ hb hK
    have HB2 := Hd hb
    have HR := Hd hR
    have HD : Hid _ := Hd hD
    have hcb := cell_of_one hR
    clear hb hR hD
    go_wp2
    refine ⟨by simp, .inl ⟨_, _, rfl, run_takeDeferred hK, ?_⟩⟩
    exact ⟨_, results_tmp rfl _ _ _, rfl, HB2.out.trans (belowK_b (w := w) (Nat.le_refl _) W D _ _ (by have := HD.out; omega) hK rfl rfl)⟩
section
variable {w w' : World} {row : Option Nat}
theorem z3q (hg : w.grownBy w' row) (hr : ∀ r, row = some r → ∃ o : Obj, w.heap[r]? = some o ∧ o.isCells = false) {k : Nat} {cs : Array Value} {ty : TypeId} {fz : Nat × Nat} (h : w.heap[k]? = some (.cells cs ty fz)) : w'.heap[k]? = some (.cells cs ty fz) :=
  (hg.block k (lt_of_block h) (fun e => by
    obtain ⟨o, ho, hc⟩ := hr k e.symm
    rw [h] at ho
    cases ho
    simp [Obj.isCells] at hc)).trans h
theorem cell_grown (hg : w.grownBy w' row) (hr : ∀ r, row = some r → ∃ o : Obj, w.heap[r]? = some o ∧ o.isCells = false) {x : Addr} {u : Value} (h : w.cell? x = some u) : w'.cell? x = some u :=
  hg.cell h (fun e => by
    obtain ⟨o, ho, hc⟩ := hr x.block e.symm
    obtain ⟨b, off, rfl, hb⟩ := cell_addr h
    simp only [World.cell?] at h
    simp only at ho
    rw [ho] at h
    cases o <;> simp [Obj.isCells] at h hc)
theorem Sl.grown' {ad : Option Addr} {n c size : Nat} {vs : List Value} (h : Sl w ad n c size vs) (hg : w.grownBy w' row) (hr : ∀ r, row = some r → ∃ o : Obj, w.heap[r]? = some o ∧ o.isCells = false) : Sl w' ad n c size vs :=
  h.of_same fun x j u _ hc => cell_grown hg hr hc
theorem Blk.grown' {v : BlkV} (h : Blk w v) (hg : w.grownBy w' row) (hr : ∀ r, row = some r → ∃ o : Obj, w.heap[r]? = some o ∧ o.isCells = false) : Blk w' v :=
  ⟨Sl.grown' h.1 hg hr, ⟨Sl.grown' h.2.1.1 hg hr, fun o ho => Sl.grown' (h.2.1.2 o ho) hg hr⟩, ⟨Sl.grown' h.2.2.1 hg hr, fun o ho => Sl.grown' (h.2.2.2 o ho) hg hr⟩⟩
theorem own_of {base : Nat} {e : TypeId} {size : Nat} {ad : Option Addr} {n c : Nat} {xs : List Value} (h : w.ownsRow base e size (.slice ad n c) n xs) (hk : ∀ (g : Nat) (cs : Array Value), base ≤ g → w.heap[g]? = some (.cells cs e (0, 0)) → w'.heap[g]? = some (.cells cs e (0, 0))) : w'.ownsRow base e size (.slice ad n c) n xs := by
  obtain ⟨h1, h2⟩ := h
  refine ⟨h1, ?_⟩
  rcases h2 with h2 | ⟨g, cap, cur, hv, hg, hh, r⟩
  · exact .inl h2
  · exact .inr ⟨g, cap, cur, hv, hg, hk g cur hg hh, r⟩
theorem own_grown {base : Nat} {e : TypeId} {size : Nat} {ad : Option Addr} {n c : Nat} {xs : List Value} (h : w.ownsRow base e size (.slice ad n c) n xs) (hg : w.grownBy w' row) (hr : ∀ r, row = some r → ∃ o : Obj, w.heap[r]? = some o ∧ o.isCells = false) : w'.ownsRow base e size (.slice ad n c) n xs :=
  own_of h fun g cs _ hh => z3q hg hr hh
end
theorem PaX.grown {x : StV × BlkV} {w w' : World} {row : Option Nat} (h : PaX x w) (hg : w.grownBy w' row) (hr : ∀ r, row = some r → ∃ o : Obj, w.heap[r]? = some o ∧ o.isCells = false) : PaX x w' :=
  ⟨own_grown (show w.ownsRow 0 22 1 (.slice x.1.ad x.1.n x.1.c) x.1.n (UV x.1.sn) from h.1) hg hr, h.2.1.grown' hg hr, h.2.2⟩
theorem PaX.below {x : StV × BlkV} {w w' : World} (h : PaX x w) (hb : Below w.heap.size w w') : PaX x w' := ⟨StV.below h.1 hb, Blk.below h.2.1 hb, h.2.2⟩
instance {x : StV × BlkV} {w w' : World} : Ck (PaX x w) w' w (PaX x w') := ⟨fun h hE => h.below hE⟩
theorem StW.row {R m : Nat} {A B : World} (h : StW R m A B) {base : Nat} {e : TypeId} {size : Nat} {ad : Option Addr} {n c : Nat} {xs : List Value} (ho : A.ownsRow base e size (.slice ad n c) n xs) (hR : R < base) (he : walkT e = false) : B.ownsRow base e size (.slice ad n c) n xs :=
  own_of ho fun g cs hg hh => by
    obtain ⟨row, hgr, hr⟩ := h
    refine (hgr.block g (lt_of_block hh) (fun e => ?_)).trans hh
    rcases hr g e.symm with h | ⟨_, cs', ty, ht, hh'⟩
    · omega
    · rw [hh] at hh'
      cases hh'
      rw [he] at ht
      cases ht
theorem KpW.write {n₀ g : Nat} {A B : World} (hg : A.grownBy B (some g)) (hn : n₀ ≤ A.heap.size) (hg0 : n₀ ≤ g) {cs : Array Value} {ty : TypeId} {fz : Nat × Nat} (hc : A.heap[g]? = some (.cells cs ty fz)) (ht : walkT ty = false) : KpW n₀ A B :=
  ⟨(Below.refl n₀ A).grown hg hn (fun k e => by cases e; exact hg0), fun k cs' ty' ht' hk => by
    refine (hg.block k (lt_of_block hk) (fun e => ?_)).trans hk
    cases e
    rw [hc] at hk
    cases hk
    rw [ht] at ht'
    cases ht'⟩
theorem KpW.own {n₀ base : Nat} {A B : World} {e : TypeId} {size : Nat} {ad : Option Addr} {n c : Nat} {xs : List Value} (ho : A.ownsRow base e size (.slice ad n c) n xs) (hg : A.grownBy B (Value.ownBlock (.slice ad n c))) (hn : n₀ ≤ A.heap.size) (hb : n₀ ≤ base) (ht : walkT e = false) : KpW n₀ A B := by
  refine ⟨(Below.refl n₀ A).grown hg hn (fun k e => Nat.le_trans hb (z07 ho k e)), fun k cs' ty' ht' hk => ?_⟩
  refine (hg.block k (lt_of_block hk) (fun e => ?_)).trans hk
  rcases ho.2 with ⟨h0, _⟩ | ⟨r, cap, cur, hv, _, hr, _⟩
  · rw [h0] at e; simp [Value.ownBlock] at e
  · rw [hv] at e
    simp [Value.ownBlock] at e
    subst e
    rw [hr] at hk
    cases hk
    rw [ht] at ht'
    cases ht'
theorem KeepsFrom.write {n₀ g : Nat} {A B : World} (hg : A.grownBy B (some g)) {cs : Array Value} {ty : TypeId} {fz : Nat × Nat} (hc : A.heap[g]? = some (.cells cs ty fz)) : KeepsFrom n₀ A B :=
  (KeepsOthers.of_grownBy hg (fun j o e ho => by cases e; rw [hc] at ho; cases ho; rfl)).from n₀
theorem KeepsFrom.below {n₀ : Nat} {A B : World} (hb : Below A.heap.size A B) : KeepsFrom n₀ A B := ⟨hb.size, fun k o _ hk _ => (hb.block k (lt_of_block hk)).trans hk⟩
theorem KeepsFrom.own {n₀ base : Nat} {A B : World} {e : TypeId} {size : Nat} {ad : Option Addr} {n c : Nat} {xs : List Value} (ho : A.ownsRow base e size (.slice ad n c) n xs) (hg : A.grownBy B (Value.ownBlock (.slice ad n c))) : KeepsFrom n₀ A B :=
  (KeepsOthers.of_grownBy hg (fun j o ej hj => by
    rcases ho.2 with ⟨h0, _⟩ | ⟨r, cap, cur, hv, _, hr, _⟩
    · rw [h0] at ej; simp [Value.ownBlock] at ej
    · rw [hv] at ej
      simp [Value.ownBlock] at ej
      subst ej
      rw [hr] at hj
      cases hj
      rfl)).from n₀
theorem z38 {F : Fence} {nF : Nat} {P : Program} {w : World} {ops : Array Oper} {rest : List Oper} {o : Oper} {a : Act} {Q : Exit → Act → World → Prop} {t e : TypeId} {size bytes : Nat} {z : Value} (hF : ∀ f, F.fn f) (el : Elem P t e size bytes z)
    (hgd : Region.wanted o (yielded ops a.tmps) = true) (s x : Operand) (ho : o.op = .call { callee := .builtin .append, args := #[s, x], argTypes := #[t, t] })
    (base : Nat) {ad : Option Addr} {n c : Nat} {xs : List Value} (hs : a.eval s = .slice ad n c) (hown : w.ownsRow base e size (.slice ad n c) n xs)
    {ad2 : Option Addr} {m c2 : Nat} {news : List Value} (hx : a.eval x = .slice ad2 m c2) (hsl : Sl w ad2 m c2 size news) (h1 : ∀ u ∈ news, u.oneCell' = true)
    (h63 : n + m ≤ maxLen) (hbytes : (n + m) * bytes ≤ 140737488355328) (hbase : base ≤ w.heap.size)
    (h : ∀ ad' c' w', w'.ownsRow base e size (.slice ad' (n + m) c') (n + m) (xs ++ news) → w.grownBy w' (Value.ownBlock (.slice ad n c)) →
      wpListIn F nF P ops Q rest (a.put o.dst (.slice ad' (n + m) c')) w') :
    wpListIn F nF P ops Q (o :: rest) a w := by
  obtain ⟨ad', c', w', hr, h2, h3, h4, h5⟩ := run_append (P := P) (ty := o.type) el (base := base) hown hsl h1 h63 hbytes hbase
  refine wpLI_run hF hgd (v := .slice ad' (n + m) c') (w' := w') (by rw [ho]; intro c e; cases e) ?_ (h ad' c' w' h2 h3)
  unfold execOp
  simp only [ho, resolve, invoke, builtin, Sem.run_bind, Sem.run_pure, Result.andThen_ok, List.map_toArray, List.map_cons, List.map_nil, hs, hx, hr]
theorem wpLI_appL {F : Fence} {nF : Nat} {P : Program} {w : World} {ops : Array Oper} {rest : List Oper} {o : Oper} {a : Act} {Q : Exit → Act → World → Prop} {t e : TypeId} {z : Value} (hF : ∀ f, F.fn f) (el : Elem P t e 1 1 z)
    (hgd : Region.wanted o (yielded ops a.tmps) = true) (s x : Operand) (ho : o.op = .call { callee := .builtin .append, args := #[s, x], argTypes := #[t, t] })
    (base : Nat) {ad : Option Addr} {c : Nat} {L : List UInt8} (hs : a.eval s = .slice ad L.length c) (hown : w.ownsRow base e 1 (.slice ad L.length c) L.length (BV L))
    {ad2 : Option Addr} {m c2 : Nat} {M : List UInt8} (hx : a.eval x = .slice ad2 m c2) (hsl : Bs w ad2 m c2 M) (R : List UInt8) (hR : L ++ M = R)
    (hb : R.length ≤ 140737488351232) (hbase : base ≤ w.heap.size)
    (h : ∀ ad' c' w', w'.ownsRow base e 1 (.slice ad' R.length c') R.length (BV R) → w.grownBy w' (Value.ownBlock (.slice ad L.length c)) → wpListIn F nF P ops Q rest (a.put o.dst (.slice ad' R.length c')) w') :
    wpListIn F nF P ops Q (o :: rest) a w := by
  have hm := hsl.len
  subst hm
  have hl : R.length = L.length + M.length := by rw [← hR, List.length_append]
  refine z38 hF el hgd s x ho base hs hown hx hsl (z11 _) (by unfold maxLen; omega) (by omega) hbase fun ad' c' w' ho' hg' => ?_
  have h1 := h ad' c' w'
  rw [hl, ← hR, z0i] at h1
  exact h1 ho' hg'
attribute [local go_sem] Oper.semAt_some
def putX (x : PS × PB) : List UInt8 := if rightP x.2 then bytesB x.1.big x.2 else []
theorem putC_snocX (l : List (PS × PB)) (p : PS × PB) : putC (l ++ [p]) = putC l ++ putX p := putC_snoc l p
theorem blkPut_bytes (s : StV) (v : BlkV) (big : Bool) (hb : big = s.big) (w : World) (hv : Blk w v) (hf : SmB v) (hw : wfB v.val) :
    Calls Try.prog 23 #[.agg v.cells.toArray, .bool big] w fun e w' => ∃ ad m c er, e = .returned (.tuple #[.slice ad m c, er]) ∧ Bs w' ad m c (putX (s.val, v.val)) ∧ Below w.heap.size w w' := by
  subst hb
  by_cases hr : rightP v.val = true
  · refine (blkPut_right _ v s.big rfl hr w hv hf hw).mono fun e w' ⟨ad, c, he, ho, hb⟩ => ⟨ad, _, c, _, he, ?_, hb⟩
    unfold putX
    rw [if_pos hr]
    exact Bs.of_own ho
  · refine (blkPut_wrong v s.big (by simpa using hr) w hv hf hw).mono fun e w' ⟨he, hb⟩ => ⟨none, 0, 0, _, he, ?_, hb⟩
    unfold putX
    rw [if_neg hr]
    exact Sl.nil _ _
theorem fold2 (p q : Nat) (u v : Value) (t : Array Value) : (#[p, q].zip #[u, v]).foldl (fun t x => t.setIfInBounds x.1 x.2) t = (t.setIfInBounds p u).setIfInBounds q v := by simp
def IPut (g4 B : Nat) (w0 : World) (pre : List (StV × BlkV)) (W : World) : Prop := ∃ ad c, W.heap[g4]? = some (.cells #[.slice ad (putC (pre.map valX)).length c] 24 (0, 0)) ∧ W.ownsRow B 5 1 (.slice ad (putC (pre.map valX)).length c) (putC (pre.map valX)).length (BV (putC (pre.map valX))) ∧ Below w0.heap.size w0 W ∧ B ≤ W.heap.size
theorem ownFrom_put (g4 B B' : Nat) (w0 : World) (h : w0.heap.size ≤ B') : OwnFrom B' (IPut g4 B w0) := fun s W W' row ⟨ad, c, h1, h2, h3, h4⟩ hg hr =>
  ⟨ad, c, z3q hg (fun r e => (hr r e).2) h1, own_grown h2 hg (fun r e => (hr r e).2), h3.grown hg h3.size (fun k e => Nat.le_trans h (hr k e).1), Nat.le_trans h4 hg.size⟩
def AxPut (fr : StV × BlkV → Nat → Nat → Array Value) (x : StV × BlkV) (a : Act) (W : World) : Prop := ∃ b6 b7, a = ⟨fr x b6 b7, []⟩ ∧ W.heap[b6]? = some (.cells x.1.cells.toArray 83 (0, 0)) ∧ W.heap[b7]? = some (.cells x.2.cells.toArray 27 (0, 0)) ∧ PaX x W
theorem ownFrom_ax (fr : StV × BlkV → Nat → Nat → Array Value) (x : StV × BlkV) (a : Act) (B : Nat) : OwnFrom B (fun (_ : Unit) W => AxPut fr x a W) := fun s W W' row ⟨b6, b7, h0, h1, h2, h3⟩ hg hr =>
  ⟨b6, b7, h0, z3q hg (fun r e => (hr r e).2) h1, z3q hg (fun r e => (hr r e).2) h2, h3.grown hg (fun r e => (hr r e).2)⟩
theorem pcPut_any (ad : Option Addr) (n c : Nat) (vs : List BlkV) (w : World) (hv : Blks w ad n c vs) (hn : n ≤ 1000000) (hall : ∀ v ∈ vs, SmB v ∧ wfB v.val) :
    Calls Try.prog 30 #[.slice ad n c] w fun e w' => Below w.heap.size w w' ∧
      ((rightC (bvals vs) = false ∧ e = .returned (.tuple #[.slice none 0 0, .int .i64 1])) ∨
       (rightC (bvals vs) = true ∧ ∃ ad c, e = .returned (.tuple #[.slice ad (bytesC noS (bvals vs)).length c, .int .i64 0]) ∧ w'.ownsRow w.heap.size 5 1 (.slice ad (bytesC noS (bvals vs)).length c) (bytesC noS (bvals vs)).length (BV (bytesC noS (bvals vs))))) := by
  have HB := Hd (Below.refl w.heap.size w)
  have HV := Hd hv
  have HALL := Hd hall
  have HSI := Hd z3g
  have HBI := Hd z0d
  have HSZ := Hd st_zero
  have HZI := Hd z1s
  clear hv hall
  refine (callsIn_wide (n := 8)).1 (callsIn_of_wp_marks Try.func30 rfl trivial (wpIn_wide.2 ?_) rfl)
  simp only [Try.ntmps30, List.size_toArray, List.length_cons, List.length_nil, Nat.reduceAdd, Nat.reduceSub, Array.replicate_succ, Array.replicate_zero, List.push_toArray, List.append_toArray, List.nil_append, List.cons_append]
  go_wp2_with (first
 | ((with_reducible refine sl 4 ?_); (refine z09 rfl 24 rfl (.slice none 0 0) #[.slice none 0 0] 1 (by kernel_rfl) rfl ?_); intro w2 g4 he__ le_g4 lt_g4 hg__ hb__; have HG4 := Hd hg__; have hE__ := cU HB bup hb__; replace HB := ck HB hE__; clear hE__; clear hg__ hb__ he__; simp only [PT])
 | ((with_reducible refine sl 5 ?_); (refine z09 rfl 4 rfl (.bool false) #[.bool false] 1 (by kernel_rfl) rfl ?_); intro w3 g3 he__ le_g3 lt_g3 hg__ hb__; have HG3 := Hd hg__; (have l03 : w.heap.size ≤ g3 := Nat.le_trans HB.out.size le_g3); (have l43 : g4 ≠ g3 := (by omega)); have hE__ := cU HB bup hb__; replace HB := ck HB hE__; replace HG4 := ck HG4 hE__; clear hE__; clear hg__ hb__ he__; simp only [PT])
 | ((with_reducible show wpList _ _ _ (⟨none, .store _ (.tmp 5) _, _, _, _, _⟩ :: _) _ _); (refine z0c rfl 4 (.tmp 5) (.const (.bool false)) rfl g3 0 (.bool false) rfl rfl rfl HG3.out (show (0 : Nat) < 1 by decide) (by kernel_rfl) #[.bool false] rfl ?_); intro w4 hs__ hr__; replace HB := cg HB bup hr__ l03; replace HG4 := cg HG4 bup hr__ l43; clear HG3; have HG3 := Hd hs__; clear hs__ hr__; simp only [PT])
 | (go_at_call 64; (refine (walk_any (some ⟨g3, 0, none⟩) ad n c _).mono ?_); intro e w5 hr; obtain ⟨Br, Bl, rfl, hBr, hBl, hb__⟩ := hr; have hE__ := cU HB bup hb__; replace HB := ck HB hE__; replace HG3 := ck HG3 hE__; replace HG4 := ck HG4 hE__; clear hE__; have HBr := Hd hBr; have HBl := Hd hBl; clear hb__ hBr hBl))
  refine (wpIn_wide (n := 8)).1 ?_
  have hsz := HB.out.size
  have lt5 := lt_of_block HG3.out
  have lt4 := lt_of_block HG4.out
  refine z2m rfl (by omega) (gf := 88) (lb := #[.pointer (some ⟨Br, 0, none⟩), .pointer (some ⟨Bl, 0, none⟩)]) rfl trivial (enters_of Try.func88 (by kernel_rfl) rfl)
    (walk_seq _ (by omega) Br Bl g3 ad n c vs hn w w5 HV.out HALL.out HB.out l03 HBr.out HBl.out ⟨_, HG3.out⟩) KpW.trans (KpW.put hsz) (Below.refl _ _) (fun _ => rfl)
    (fun m A B k ob st hk hkm _ hA => st.other hkm (by omega) hA)
    (IPut g4 w5.heap.size w) (ownFrom_put _ _ _ _ hsz) (fun s A B m hm hi st => ?hst)
    (ownFrom_cells _ g3 _ _ _) ⟨none, 0, HG4.out, World.ownsRow_nil _ _ _ _, HB.out, Nat.le_refl _⟩ (AxPut fun x b6 b7 => #[.slice ad n c, undef, .slice none 0 0, .int .i64 0, .pointer (some ⟨g4, 0, none⟩), .pointer (some ⟨g3, 0, none⟩), .pointer (some ⟨b6, 0, none⟩), .pointer (some ⟨b7, 0, none⟩), undef, undef, .slice ad n c, .func (.func 88) #[] #[.pointer (some ⟨Br, 0, none⟩), .pointer (some ⟨Bl, 0, none⟩)], .agg x.1.cells.toArray, .agg x.2.cells.toArray, undef, undef, undef, undef, undef, undef, undef, undef, undef, undef, undef, undef, undef]) (fun x a' => ownFrom_ax _ _ _ _) ?assign ?body ?done
  case hst =>
    obtain ⟨ad', c', h1, h2, h3, h4⟩ := hi
    exact ⟨ad', c', st.other (by omega) l43 h1, st.row h2 (by omega) (by decide), st.keeps h3 (Nat.le_refl _) l03 (Nat.le_trans hsz hm), Nat.le_trans h4 st.choose_spec.1.size⟩
  case assign =>
    intro l pre x W K hI hP hK
    simp only [encX, fold2]
    simp only [PT]
    have hF : ∀ f, (Fence.wide.inRound l).fn f := fun _ => trivial
    obtain ⟨ad', c', h1, h2, h3, h4⟩ := hI
    have HE := Hd (Below.refl W.heap.size W)
    have HP := Hd hP
    have H1 := Hd h1
    have H2 := Hd h2
    have H3 := Hd h3
    have HK := Hd hK
    have hszW : w.heap.size ≤ W.heap.size := h3.size
    clear hP h1 h2 h3 hK
    gi_wp2_with (first
 | ((with_reducible refine slI 6 ?_); (refine z1k hF rfl rfl 83 rfl (.tmp 6) (.tmp 12) rfl x.1.cells.toArray _ HSZ.out rfl (z0v _) (fun _ => rfl) (fun _ => rfl) ?_); intro w6 g6 le_g6 lt_g6 hg__ hb__; have HG6 := Hd hg__; replace HE := ck HE hb__; replace HP := ck HP hb__; replace H1 := ck H1 hb__; replace H2 := ck H2 hb__; replace H3 := ck H3 hb__; clear hg__ hb__; simp only [PT])
 | ((with_reducible refine slI 7 ?_); (refine z1k hF rfl rfl 27 rfl (.tmp 7) (.tmp 13) rfl x.2.cells.toArray _ HZI.out rfl (z0h _) (fun _ => rfl) (fun _ => rfl) ?_); intro w7 g7 le_g7 lt_g7 hg__ hb__; have HG7 := Hd hg__; replace HE := ck HE hb__; replace HP := ck HP hb__; replace H1 := ck H1 hb__; replace H2 := ck H2 hb__; replace H3 := ck H3 hb__; replace HG6 := ck HG6 hb__; clear hg__ hb__; simp only [PT]))
    exact HK.out _ _ (KeepsFrom.below HE.out) (KpW.of_below HE.out hszW) ⟨ad', c', H1.out, H2.out, H3.out, Nat.le_trans h4 HE.out.size⟩ ⟨g6, g7, by simp, HG6.out, HG7.out, HP.out⟩
  case body =>
    rintro l pre x a' W hl ⟨ad', c', h1, h2, h3, h4⟩ ⟨b6, b7, rfl, h6, h7, hP⟩ hlt
    have hF : ∀ f, (Fence.wide.inRound l).fn f := fun _ => trivial
    have HE := Hd (Below.refl W.heap.size W)
    have HP := Hd hP
    have H1 := Hd h1
    have H2 := Hd h2
    have H3 := Hd h3
    have HG6 := Hd h6
    have HG7 := Hd h7
    have hszW : w.heap.size ≤ W.heap.size := h3.size
    obtain ⟨LN, hLN⟩ : ∃ LN, LN = putC ((pre ++ [x]).map valX) := ⟨_, rfl⟩
    have HNX : Hid (LN.length ≤ 140737488351232) := Hd (by rw [hLN]; have := putC_length ((pre ++ [x]).map valX); simp at this; simp; omega)
    have HNE : Hid (putC (pre.map valX) ++ putX (x.1.val, x.2.val) = LN) := Hd (by rw [hLN, List.map_append, List.map_cons, List.map_nil, putC_snocX]; rfl)
    have HLN := Hd hLN
    clear hLN
    clear hP h1 h2 h3 h6 h7
    gi_wp2_with (first
 | ((with_reducible refine slI 15 ?_); (refine z1b hF rfl 27 (.tmp 7) rfl b7 0 rfl x.2.cells _ (z00 HG7.out) Try.underlying27 rfl HBI.out ?_); simp only [PT])
 | ((with_reducible refine slI 17 ?_); (refine z0e hF rfl 4 (.tmp 16) rfl b6 1 rfl (.bool x.1.big) HG6.out rfl Try.underlying4 rfl ?_); simp only [PT])
 | (gi_at_call 23; (refine (callsIn_wide.2 (blkPut_bytes x.1 x.2 x.1.big rfl _ HP.out.2.1 HP.out.2.2.1 HP.out.2.2.2.1)).mono ?_); intro e w9 hr; obtain ⟨ad9, m9, c9, er9, rfl, hs9, hb__⟩ := hr; have HS9 := Hd hs9; replace HE := ck HE hb__; replace H1 := ck H1 hb__; replace H2 := ck H2 hb__; replace H3 := ck H3 hb__; clear hb__ hs9)
 | ((with_reducible refine slI 21 ?_); (refine z0e hF rfl 24 (.tmp 4) rfl g4 0 rfl (.slice ad' (putC (pre.map valX)).length c') H1.out rfl Try.underlying24 rfl ?_); simp only [PT])
 | ((with_reducible refine slI 23 ?_); (refine wpLI_appL hF elB rfl (.tmp 21) (.tmp 22) rfl w5.heap.size rfl H2.out rfl HS9.out _ HNE.out HNX.out (Nat.le_trans h4 HE.out.size) ?_); intro ad10 c10 w10 ho10 hg10__; have HQ := Hd (KpW.own H2.out hg10__ (Nat.le_trans hszW HE.out.size) hsz (by decide)); have HQ2 := Hd (KeepsFrom.own (n₀ := w5.heap.size) H2.out hg10__); have HO := Hd ho10; clear ho10; (replace H1 := Hd ((hg10__.block g4 (lt_of_block H1.out) (fun e => (by have := z07 H2.out g4 e.symm; omega))).trans H1.out)); (replace H3 := Hd (H3.out.grown hg10__ H3.out.size (fun k e => Nat.le_trans hsz (z07 H2.out k e)))); clear hg10__ H2; simp only [PT])
 | ((with_reducible show wpListIn _ _ _ _ _ (⟨none, .store _ (.tmp 4) _, _, _, _, _⟩ :: _) _ _); (refine z1j hF rfl 24 (.tmp 4) (.tmp 23) rfl g4 0 (.slice ad10 LN.length c10) rfl rfl rfl H1.out (show (0 : Nat) < 1 by decide) (by kernel_rfl) #[.slice ad10 LN.length c10] rfl ?_); intro w11 hs__ hr__; have HS := Hd hs__; have HR := Hd hr__; clear hs__ hr__; simp only [PT]))
    have hs10 : w.heap.size ≤ w10.heap.size := H3.out.size
    refine ⟨((KeepsFrom.below HE.out).trans HQ2.out).trans (KeepsFrom.write HR.out H1.out), ((KpW.of_below HE.out hszW).trans HQ.out).trans (KpW.write HR.out hs10 le_g4 H1.out (by decide)), ad10, c10, ?_⟩
    rw [← HLN.out]
    exact ⟨HS.out, own_of HO.out (fun g cs hb hh => (HR.out.block g (lt_of_block hh) (fun e => by cases e; omega)).trans hh), H3.out.grown HR.out hs10 (fun k e => by cases e; exact le_g4), Nat.le_trans (Nat.le_trans h4 HE.out.size) (Nat.le_trans HQ2.out.size HR.out.size)⟩
  case done =>
    rintro D xs W hD ⟨hx, hR⟩ ⟨ad', c', h1, h2, hb, h4⟩ hK
    have HX := Hd hx
    have H1 := Hd h1
    have H2 := Hd h2
    have HB2 := Hd hb
    have HD : Hid _ := Hd hD
    have HKD := Hd hK
    have HAL : rightC (bvals vs) = true → Hid (putC (xs.map valX) = bytesC noS (bvals vs)) := fun h => Hd (by rw [HX.out]; exact putC_walk _ _ (by simp [rightC] at h; exact h.1))
    have HOW := own_of (w' := W.putObj D (.deferred none)) h2 (fun g cs _ hh => (World.putObj_heap_other (fun e => by rw [e] at hh; rw [hh] at hK; cases hK)).trans hh)
    have HBW := hb.trans (belowK_b (w := w) (Nat.le_refl _) W D _ (.deferred none) (by omega) hK rfl rfl)
    clear hx h1 h2 hb hD hK
    have HOW := Hd HOW
    have HBW := Hd HBW
    have HRR := Hd hR
    have HALH := Hd HAL
    clear hR HAL
    obtain ⟨r, HRE⟩ : ∃ r, Hid (r = rightC (bvals vs)) := ⟨_, Hd rfl⟩
    rw [← HRE.out] at HRR
    have hcb := cell_of_one HRR.out
    have hcg := cell_of_one H1.out
    cases r
    · go_wp2
      refine ⟨by simp, .inl ⟨_, _, rfl, run_takeDeferred HKD.out, ?_⟩⟩
      exact ⟨_, results_tmp2 rfl _ _ _, HBW.out, .inl ⟨HRE.out.symm, rfl⟩⟩
    · have HE2 := HALH.out HRE.out.symm
      go_wp2
      refine ⟨by simp, .inl ⟨_, _, rfl, run_takeDeferred HKD.out, ?_⟩⟩
      refine ⟨_, results_tmp2 rfl _ _ _, HBW.out, .inr ⟨HRE.out.symm, ad', c', ?_, ?_⟩⟩
      · rw [← HE2.out]; rfl
      · rw [← HE2.out]; exact HOW.out.mono hsz
structure FrV where
  sec : Int
  iface : Int
  time : Nat
  len : Nat
  ad : Option Addr
  n : Nat
  c : Nat
  l : List UInt8
def FrV.cells (v : FrV) : List Value := [.int .i64 v.sec, .int .i64 v.iface, .int .u64 (v.time : Int), .int .i64 (v.len : Int), .slice v.ad v.n v.c]
def FrV.val (v : FrV) : FR := ⟨v.sec, v.iface, v.time, v.len, v.l⟩
def fcells (vs : List FrV) : List Value := vs.flatMap FrV.cells
theorem fcells_snoc (vs : List FrV) (v : FrV) : fcells (vs ++ [v]) = fcells vs ++ v.cells := by simp [fcells]
theorem FrV.one (v : FrV) : ∀ u ∈ v.cells, u.oneCell' = true := by
  intro u hu
  simp only [FrV.cells, List.mem_cons, List.not_mem_nil, or_false] at hu
  rcases hu with rfl | rfl | rfl | rfl | rfl <;> rfl
def OwnF (base : Nat) (w : World) (v : FrV) : Prop := w.ownsRow base 5 1 (.slice v.ad v.n v.c) v.n (BV v.l)
theorem elF : Elem Try.prog 56 59 5 56 (.agg #[.int .i64 0, .int .i64 0, .int .u64 0, .int .i64 0, .slice none 0 0]) := ⟨Try.underlying56, by kernel_rfl, rfl, by omega⟩
theorem fr_zero : (Try.prog.info? 59).map (fun i => (i.zero, i.size)) = some (some (.agg #[.int .i64 0, .int .i64 0, .int .u64 0, .int .i64 0, .slice none 0 0]), 5) := by kernel_rfl
theorem fr_info : (Try.prog.info? 59).map (·.size) = some 5 := by kernel_rfl
theorem run_lit1 {P : Program} {o : Oper} {a : Act} {w : World} (t e : TypeId) (x : Operand) (ho : o.op = .buildSlice t 1 #[(0, x)]) (cs zs : Array Value) (hx : a.eval x = .agg cs) (k : Nat) (hu : P.underlying t = some (.slice e))
    (hi : (P.info? e).map (fun i => (i.zero, i.size)) = some (some (.agg zs), k)) (hk : 0 < k) (hk2 : k ≤ 16777216)
    (hf : Instr.fill (fun i => some (i * k, k)) ((Array.range (1 * k)).map (zs[· % zs.size]!)) [(0, .agg cs)] = some cs) :
    (execOp a.eval o).run P w = .ok (.value (.slice (some ⟨w.heap.size, 0, none⟩) 1 1)) (w.alloc (.cells cs e)) := by
  cases hie : P.info? e with
  | none => simp [hie] at hi
  | some ie =>
    simp only [hie, Option.map_some, Option.some.injEq, Prod.mk.injEq] at hi
    obtain ⟨hz, hs⟩ := hi
    have hrun := run_buildSlice (P := P) w t e 1 #[(0, .agg cs)] cs ie (.agg zs) hu hie hz (by rw [hs]; omega) (by rw [hs]; omega) (by rw [hs]; exact hf)
    unfold execOp
    simp only [ho, List.map_toArray, List.map_cons, List.map_nil, hx, Sem.run_bind, hrun, Result.andThen_ok, Sem.run_pure]
theorem wpLI_lit1 {F : Fence} {n : Nat} {P : Program} {ops : Array Oper} {Q : Exit → Act → World → Prop} {a : Act} {w : World} {rest : List Oper} {o : Oper} (hF : ∀ f, F.fn f) (hgd : o.guard = none) (t e : TypeId) (x : Operand) (ho : o.op = .buildSlice t 1 #[(0, x)]) (cs zs : Array Value) (hx : a.eval x = .agg cs) (k : Nat) (hu : P.underlying t = some (.slice e))
    (hi : (P.info? e).map (fun i => (i.zero, i.size)) = some (some (.agg zs), k)) (hk : 0 < k) (hk2 : k ≤ 16777216)
    (hf : Instr.fill (fun i => some (i * k, k)) ((Array.range (1 * k)).map (zs[· % zs.size]!)) [(0, .agg cs)] = some cs)
    (h : ∀ w1 g, w.heap.size ≤ g → g < w1.heap.size → w1.heap[g]? = some (.cells cs e (0, 0)) → Below w.heap.size w w1 → wpListIn F n P ops Q rest (a.put o.dst (.slice (some ⟨g, 0, none⟩) 1 1)) w1) :
    wpListIn F n P ops Q (o :: rest) a w :=
  wpLI_run hF (by simp [Region.wanted, hgd]) (by rw [ho]; intro c e; cases e) (run_lit1 t e x ho cs zs hx k hu hi hk hk2 hf)
    (h _ _ (Nat.le_refl _) (by simp) (heap_alloc_last w _) ((Below.refl _ _).alloc (Nat.le_refl _) _))
theorem wpL_lit1 {P : Program} {ops : Array Oper} {Q : Exit → Act → World → Prop} {a : Act} {w : World} {rest : List Oper} {o : Oper} (hgd : o.guard = none) (t e : TypeId) (x : Operand) (ho : o.op = .buildSlice t 1 #[(0, x)]) (cs zs : Array Value) (hx : a.eval x = .agg cs) (k : Nat) (hu : P.underlying t = some (.slice e))
    (hi : (P.info? e).map (fun i => (i.zero, i.size)) = some (some (.agg zs), k)) (hk : 0 < k) (hk2 : k ≤ 16777216)
    (hf : Instr.fill (fun i => some (i * k, k)) ((Array.range (1 * k)).map (zs[· % zs.size]!)) [(0, .agg cs)] = some cs)
    (h : ∀ w1 g, w.heap.size ≤ g → g < w1.heap.size → w1.heap[g]? = some (.cells cs e (0, 0)) → Below w.heap.size w w1 → wpList P ops Q rest (a.put o.dst (.slice (some ⟨g, 0, none⟩) 1 1)) w1) :
    wpList P ops Q (o :: rest) a w :=
  z23 (by simp [Region.wanted, hgd]) (run_lit1 t e x ho cs zs hx k hu hi hk hk2 hf)
    (h _ _ (Nat.le_refl _) (by simp) (heap_alloc_last w _) ((Below.refl _ _).alloc (Nat.le_refl _) _))
theorem fill_frame (v : FrV) : Instr.fill (fun i => some (i * 5, 5)) ((Array.range (1 * 5)).map (#[Value.int .i64 0, Value.int .i64 0, Value.int .u64 0, Value.int .i64 0, Value.slice none 0 0][· % 5]!)) [(0, .agg v.cells.toArray)] = some v.cells.toArray := by
  simp [Instr.fill, FrV.cells, Value.cells, Array.range]
  rfl
theorem z2f {w w' : World} {b1 b2 : Nat} {e1 e2 : TypeId} {s1 s2 : Nat} {ad1 ad2 : Option Addr} {n1 n2 c1 c2 : Nat} {xs ys : List Value} (h : w.ownsRow b1 e1 s1 (.slice ad1 n1 c1) n1 xs) (k : w.ownsRow b2 e2 s2 (.slice ad2 n2 c2) n2 ys) (hg : w.grownBy w' (Value.ownBlock (.slice ad2 n2 c2))) (hne : e1 ≠ e2) : w'.ownsRow b1 e1 s1 (.slice ad1 n1 c1) n1 xs :=
  own_of h fun g cs hb hh => (hg.block g (lt_of_block hh) (fun e => by
    rcases k.2 with ⟨h0, _⟩ | ⟨r, cap, cur, hv, _, hr, _⟩
    · rw [h0] at e; simp [Value.ownBlock] at e
    · rw [hv] at e
      simp [Value.ownBlock] at e
      subst e
      rw [hr] at hh
      cases hh
      exact hne rfl)).trans hh
theorem wpLI_sliceG {F : Fence} {nF : Nat} {P : Program} {w : World} {ops : Array Oper} {rest : List Oper} {o : Oper} {a : Act} {Q : Exit → Act → World → Prop} {t e : TypeId} {size bytes : Nat} {z : Value} (hF : ∀ f, F.fn f) (el : Elem P t e size bytes z)
    (hg : Region.wanted o (yielded ops a.tmps) = true) (x : Operand) (lo hi : Option Operand) (hop : o.op = Op.slice t x lo hi none) {ad : Option Addr} {n c : Nat} (hx : a.eval x = .slice ad n c) (l h : Nat)
    (hlo : (lo.map a.eval = none ∧ l = 0) ∨ ∃ k, lo.map a.eval = some (.int k (l : Int))) (hhi : (hi.map a.eval = none ∧ h = n) ∨ ∃ k, hi.map a.eval = some (.int k (h : Int))) (hl : l ≤ h) (hh : h ≤ c)
    (m cc : Nat) (hm : h - l = m) (hcc : c - l = cc)
    (hK : ∀ ad', Hid (ad' = subAd ad c l size) → wpListIn F nF P ops Q rest (a.put o.dst (.slice ad' m cc)) w) : wpListIn F nF P ops Q (o :: rest) a w := by
  subst hm
  subst hcc
  refine wpLI_run hF hg (v := .slice (subAd ad c l size) (h - l) (c - l)) (w' := w) (by rw [hop]; intro c e; cases e) ?_ (hK _ (Hd rfl))
  have hrun := run_slice (P := P) (w := w) el ad n c (lo.map a.eval) (hi.map a.eval) l h hlo hhi hl hh
  simp only [execOp, hop, hx, Option.map_none, Sem.run_bind, hrun, Result.andThen_ok, Sem.run_pure]
end Go.Proofs.Ytmfplinbbcoahaa
namespace Go.Proofs.Ytmfplinbbcoahaa
open Go.RowKit Go.Sort
def Apart (g : Nat) (v : BlkV) : Prop :=
  (∀ x, v.dad = some x → x.block ≠ g) ∧ ((∀ x, v.nad = some x → x.block ≠ g) ∧ ∀ o ∈ v.ns, ∀ x, o.ad = some x → x.block ≠ g) ∧ ((∀ x, v.oad = some x → x.block ≠ g) ∧ ∀ o ∈ v.os, ∀ x, o.ad = some x → x.block ≠ g)
theorem z18 {w : World} {base : Nat} {e : TypeId} {size : Nat} {ad : Option Addr} {n c : Nat} {xs : List Value} (h : w.ownsRow base e size (.slice ad n c) n xs) : ∀ x, ad = some x → base ≤ x.block ∧ x.block < w.heap.size := by
  intro x hx
  rcases z29 h with ⟨h0, _⟩ | ⟨g, h1, h2, h3⟩
  · rw [h0] at hx; cases hx
  · rw [h1] at hx; cases hx; exact ⟨h2, h3⟩
theorem OwnBlk.apart_lt {base g : Nat} {w : World} {v : BlkV} (h : OwnBlk base w v) (hg : w.heap.size ≤ g) : Apart g v := by
  obtain ⟨h1, h2, h3⟩ := h
  refine ⟨fun x hx => ?_, ⟨fun x hx => ?_, fun o ho x hx => ?_⟩, ⟨fun x hx => ?_, fun o ho x hx => ?_⟩⟩
  · have := z18 h1 x hx; omega
  · have := z18 h2.1 x hx; omega
  · have := (h2.2 o ho).2 x hx; omega
  · have := z18 h3.1 x hx; omega
  · have := (h3.2 o ho).2 x hx; omega
theorem OwnBlk.apart_ge {base g : Nat} {w : World} {v : BlkV} (h : OwnBlk base w v) (hg : g < base) : Apart g v := by
  obtain ⟨h1, h2, h3⟩ := h
  refine ⟨fun x hx => ?_, ⟨fun x hx => ?_, fun o ho x hx => ?_⟩, ⟨fun x hx => ?_, fun o ho x hx => ?_⟩⟩
  · have := z18 h1 x hx; omega
  · have := z18 h2.1 x hx; omega
  · have := (h2.2 o ho).2 x hx; omega
  · have := z18 h3.1 x hx; omega
  · have := (h3.2 o ho).2 x hx; omega
theorem own_apart {w w' : World} {base g : Nat} {e : TypeId} {size : Nat} {ad : Option Addr} {n c : Nat} {xs : List Value} (h : w.ownsRow base e size (.slice ad n c) n xs) (hg : w.grownBy w' (some g)) (hne : ∀ x, ad = some x → x.block ≠ g) : w'.ownsRow base e size (.slice ad n c) n xs := by
  refine h.kept hg ?_
  rcases z29 h with ⟨h0, _⟩ | ⟨g', h1, h2, _⟩
  · rw [h0]; exact .inl rfl
  · rw [h1]
    refine .inr fun e => ?_
    simp [Value.ownBlock] at e
    exact hne _ h1 e
theorem ops_apart {w w' : World} {base g : Nat} {e : TypeId} {ad : Option Addr} {n c : Nat} {os : List OptV} (h : OwnOps e base w ad n c os) (hg : w.grownBy w' (some g)) (hne : ∀ x, ad = some x → x.block ≠ g) (hno : ∀ o ∈ os, ∀ x, o.ad = some x → x.block ≠ g) : OwnOps e base w' ad n c os :=
  ⟨own_apart h.1 hg hne, fun o ho => ⟨Sl.grown (h.2 o ho).1 hg (fun x hx e => hno o ho x hx (by cases e; rfl)), fun x hx => ⟨((h.2 o ho).2 x hx).1, Nat.lt_of_lt_of_le ((h.2 o ho).2 x hx).2.1 hg.size, ((h.2 o ho).2 x hx).2.2⟩⟩⟩
theorem cXn {w wd w1 : World} {base g : Nat} {v : BlkV} (h : Hid (OwnBlk base w v)) (ha : Apart g v) (hE : Below w.heap.size w wd) (hg : wd.grownBy w1 (some g)) : Hid (OwnBlk base w1 v) := by
  obtain ⟨h1, h2, h3⟩ := h.out.keep hE
  exact Hd ⟨own_apart h1 hg ha.1, ops_apart h2 hg ha.2.1.1 ha.2.1.2, ops_apart h3 hg ha.2.2.1 ha.2.2.2⟩
end Go.Proofs.Ytmfplinbbcoahaa
namespace Go.Proofs.Ytmfplinbbcoahaa
open Go.RowKit Go.Sort Go.Shelf
theorem elK : Elem Try.prog 44 27 11 128 (.agg zeroC) := ⟨Try.underlying44, by kernel_rfl, rfl, by omega⟩
theorem z3s (v : BlkV) : Instr.fill (fun i => some (i * 11, 11)) ((Array.range (1 * 11)).map (zeroC[· % zeroC.size]!)) [(0, .agg v.cells.toArray)] = some v.cells.toArray := by
  kernel_rfl
theorem BlkV.one (v : BlkV) : ∀ u ∈ v.cells, u.oneCell' = true := by
  have h := z0h v
  intro u hu
  rw [List.all_toArray, List.all_eq_true] at h
  exact h u hu
def OwnBlks (base : Nat) (w : World) (ad : Option Addr) (c : Nat) (vs : List BlkV) : Prop := w.ownsRow base 27 11 (.slice ad vs.length c) vs.length (bcells vs) ∧ ∀ v ∈ vs, OwnBlk base w v ∧ ∀ y, ad = some y → Apart y.block v
section
variable {w w' : World} {base : Nat} {ad : Option Addr} {c : Nat} {vs : List BlkV}
theorem OwnBlks.blks (h : OwnBlks base w ad c vs) : Blks w ad vs.length c vs := ⟨Sl.of_own h.1, fun v hv => (h.2 v hv).1.blk⟩
theorem OwnBlks.keep (h : OwnBlks base w ad c vs) (hb : Below w.heap.size w w') : OwnBlks base w' ad c vs := ⟨z08 h.1 hb, fun v hv => ⟨(h.2 v hv).1.keep hb, (h.2 v hv).2⟩⟩
theorem OwnBlks.lower {base' : Nat} (h : OwnBlks base w ad c vs) (hb : base' ≤ base) : OwnBlks base' w ad c vs := ⟨z0r h.1 hb, fun v hv => ⟨(h.2 v hv).1.base hb, (h.2 v hv).2⟩⟩
instance : Ck (OwnBlks base w ad c vs) w' w (OwnBlks base w' ad c vs) := ⟨fun h hE => h.keep hE⟩
theorem OwnBlks.write {g : Nat} (h : OwnBlks base w ad c vs) (hg : w.grownBy w' (some g)) (hlt : g < base) : OwnBlks base w' ad c vs :=
  ⟨own_of h.1 fun k cs hb hh => (hg.block k (lt_of_block hh) (fun e => by cases e; omega)).trans hh, fun v hv => ⟨(cXg (Hd (h.2 v hv).1) (Below.refl _ _) hg hlt).out, (h.2 v hv).2⟩⟩
theorem OwnBlks.nil (w : World) (base : Nat) : OwnBlks base w none 0 [] := ⟨World.ownsRow_nil _ _ _ _, fun v hv => by simp at hv⟩
theorem bcells_snoc (vs : List BlkV) (v : BlkV) : bcells (vs ++ [v]) = bcells vs ++ v.cells := by simp [bcells]
theorem OwnBlks.snoc {ad2 : Option Addr} {c2 : Nat} {v : BlkV} (h : OwnBlks base w ad c vs) (hv : OwnBlk base w v) (hva : ∀ y, ad = some y → Apart y.block v) (hg : w.grownBy w' (Value.ownBlock (.slice ad vs.length c))) (hat : ad2 = ad ∨ ad2 = some ⟨w.heap.size, 0, none⟩) (ho : w'.ownsRow base 27 11 (.slice ad2 (vs.length + 1) c2) (vs.length + 1) (bcells vs ++ v.cells)) : OwnBlks base w' ad2 c2 (vs ++ [v]) := by
  have key : ∀ u, OwnBlk base w u → (∀ y, ad = some y → Apart y.block u) → OwnBlk base w' u ∧ ∀ y, ad2 = some y → Apart y.block u := fun u hu ha => by
    refine ⟨?_, fun y hy => ?_⟩
    · rcases z29 h.1 with ⟨h0, _⟩ | ⟨g, h0, _⟩
      · rw [h0] at hg
        exact hu.keep ⟨hg.os, hg.tape, hg.output, hg.size, fun k hk => hg.block k hk (by simp [Value.ownBlock])⟩
      · rw [h0] at hg
        exact (cXn (Hd hu) (ha _ h0) (Below.refl _ _) (show w.grownBy w' (some g) from hg)).out
    · rcases hat with h1 | h1
      · exact ha y (by rw [← h1]; exact hy)
      · rw [h1] at hy
        cases hy
        exact hu.apart_lt (Nat.le_refl _)
  refine ⟨?_, fun u hu => ?_⟩
  · rw [List.length_append, bcells_snoc]; exact ho
  · rcases List.mem_append.1 hu with hu | hu
    · exact key u (h.2 u hu).1 (h.2 u hu).2
    · obtain rfl : u = v := by simpa using hu
      exact key u hv hva
end
section
variable {f at_ : Nat} {s : PS} {acc : List PB} {b : List UInt8}
theorem read_end (hb : b = []) (h0 : 0 < at_) : readC (f + 1) s acc at_ b = (acc, (0, 0)) := by unfold readC; rw [if_pos ⟨hb, h0⟩]
theorem read_mark (h1 : ¬ (b = [] ∧ 0 < at_)) (h2 : s.sec < 0 ∧ 12 ≤ b.length ∧ b.take 4 ≠ markB) : readC (f + 1) s acc at_ b = (acc, (at_, 3)) := by unfold readC; rw [if_neg h1, if_pos h2]
theorem read_bad (h1 : ¬ (b = [] ∧ 0 < at_)) (h2 : ¬ (s.sec < 0 ∧ 12 ≤ b.length ∧ b.take 4 ≠ markB)) {X : PB} {N : Nat} {E : Int} (hX : getP s.big b = (X, N, E)) (hE : E ≠ 0) : readC (f + 1) s acc at_ b = (acc, (at_, E)) := by
  unfold readC; rw [if_neg h1, if_neg h2, hX, if_pos hE]
theorem read_none (h1 : ¬ (b = [] ∧ 0 < at_)) (h2 : ¬ (s.sec < 0 ∧ 12 ≤ b.length ∧ b.take 4 ≠ markB)) {X : PB} {N : Nat} (hX : getP s.big b = (X, N, 0)) (hO : okS s X = false) : readC (f + 1) s acc at_ b = (acc, (at_, 5)) := by
  unfold readC; rw [if_neg h1, if_neg h2, hX, if_neg (by simp), if_pos hO]
theorem read_next (h1 : ¬ (b = [] ∧ 0 < at_)) (h2 : ¬ (s.sec < 0 ∧ 12 ≤ b.length ∧ b.take 4 ≠ markB)) {X : PB} {N : Nat} (hX : getP s.big b = (X, N, 0)) (hO : okS s X = true) : readC (f + 1) s acc at_ b = readC f (nextS s X) (acc ++ [X]) (at_ + N) (b.drop N) := by
  rw [readC, if_neg h1, if_neg h2, hX, if_neg (by simp), if_neg (by simp [hO])]
end
end Go.Proofs.Ytmfplinbbcoahaa
