/-
  Joined by program (merge.py): RGet, LawKitG, RefPc6, PcLawB.
-/
import Derived.Deep.Cut
import Derived.RegionTactic
import Derived.BigRegion
import Derived.Test.YtmfplinbbcoahaaR3
import Derived.Test.YtmfplinbbcoahaaR9
import Derived.Test.YtmfplinbbcoahaaR10
import Derived.Test.YtmfplinbbcoahaaR11
import Derived.Test.YtmfplinbbcoahaaR12
import Derived.Test.YtmfplinbbcoahaaR13
set_option linter.unusedVariables false
set_option linter.unusedSimpArgs false
set_option maxRecDepth 100000
set_option maxHeartbeats 16000000
namespace Go.Proofs.Ytmfplinbbcoahaa
open Go.RowKit Go.Sort
theorem readO_spot (big : Bool) (r : List UInt8) : (readO big r).2 = (0, 0) ∨ (readO big r).2.2 ≠ 0 := by
  unfold readO readR
  split
  · split
    · exact .inr (by simp)
    · exact .inl rfl
  · rename_i h
    rcases rowsS_spot big r.length r 0 [] with h2 | ⟨h2, _⟩
    · exact absurd h2 h
    · refine .inr ?_
      show (rowsS big r.length r 0 []).2.2.2.2 ≠ 0
      omega
theorem refGet_short (ad : Option Addr) (n c : Nat) (l : List UInt8) (big : Bool) (w : World) (hs : Bs w ad n c l) (hn : n ≤ 1000000000) (h : n < 12) :
    Calls Try.prog 27 #[.slice ad n c, .bool big] w (GetR (getP big l) w) := by
  have HB := Hd (Below.refl w.heap.size w)
  have HS := Hd hs
  have HBI := Hd z0d
  have HI : Hid ((Try.prog.info? 49).map (·.size) = some 2) := Hd (by kernel_rfl)
  have hc := hs.le
  have HN := Hd hs.len
  clear hs
  have hi : (n : Int) < 12 := by omega
  have HO : Hid (getP big l = (noneB, 0, 2)) := Hd (by have := HN.out; unfold getP; rw [if_pos (by omega)])
  clear HN
  go_enter Try.func27, Try.ntmps27
  go_wp2_with (first
 | ((with_reducible refine sl 4 ?_); (refine z09 rfl 27 rfl (.agg #[.int .i64 0, .bool false, .int .u32 0, .int .i64 0, .int .u32 0, .int .i64 0, .int .u64 0, .int .u32 0, .slice none 0 0, .slice none 0 0, .slice none 0 0]) #[.int .i64 0, .bool false, .int .u32 0, .int .i64 0, .int .u32 0, .int .i64 0, .int .u64 0, .int .u32 0, .slice none 0 0, .slice none 0 0, .slice none 0 0] 11 (by kernel_rfl) rfl ?_); intro w1 g4 he__ le_g4 lt_g4 hg__ hb__; have HG4 := Hd hg__; have hE__ := cU HB bup hb__; replace HB := ck HB hE__; clear hE__; clear hg__ hb__ he__; simp only [PT])
 | ((with_reducible refine sl 7 ?_); (refine z09 rfl 27 rfl (.agg #[.int .i64 0, .bool false, .int .u32 0, .int .i64 0, .int .u32 0, .int .i64 0, .int .u64 0, .int .u32 0, .slice none 0 0, .slice none 0 0, .slice none 0 0]) #[.int .i64 0, .bool false, .int .u32 0, .int .i64 0, .int .u32 0, .int .i64 0, .int .u64 0, .int .u32 0, .slice none 0 0, .slice none 0 0, .slice none 0 0] 11 (by kernel_rfl) rfl ?_); intro w2 g7 he__ le_g7 lt_g7 hg__ hb__; have h47 : g4 < g7 := Nat.lt_of_lt_of_le (lt_of_block (by exact HG4.out)) le_g7; have HG7 := Hd hg__; have hE__ := cU HB bup hb__; replace HB := ck HB hE__; replace HG4 := ck HG4 hE__; clear hE__; clear hg__ hb__ he__; simp only [PT])
 | ((with_reducible show wpList _ _ _ (⟨none, .store _ (.tmp 7) (.tmp 17), _, _, _, _⟩ :: _) _ _); (refine z02 rfl 27 (.tmp 7) (.tmp 17) rfl g7 #[.int .i64 0, .bool false, .int .u32 0, .int .i64 0, .int .u32 0, .int .i64 0, .int .u64 0, .int .u32 0, .slice none 0 0, .slice none 0 0, .slice none 0 0] rfl rfl HG7.out HBI.out rfl (all1 _ rfl) ?_); intro w3 hs__ hr__; replace HB := cg HB bup hr__ (by omega); replace HG4 := cg HG4 bup hr__ (by omega); clear HG7; have HG7 := Hd hs__; clear hs__ hr__; simp only [PT])
 | ((with_reducible refine sl 21 ?_); (refine z05 rfl 27 (.tmp 7) rfl g7 0 rfl [.int .i64 0, .bool false, .int .u32 0, .int .i64 0, .int .u32 0, .int .i64 0, .int .u64 0, .int .u32 0, .slice none 0 0, .slice none 0 0, .slice none 0 0] _ (z00 HG7.out) Try.underlying27 rfl HBI.out ?_); simp only [PT])
 | ((with_reducible show wpList _ _ _ (⟨none, .store _ (.tmp 4) (.tmp 21), _, _, _, _⟩ :: _) _ _); (refine z02 rfl 27 (.tmp 4) (.tmp 21) rfl g4 #[.int .i64 0, .bool false, .int .u32 0, .int .i64 0, .int .u32 0, .int .i64 0, .int .u64 0, .int .u32 0, .slice none 0 0, .slice none 0 0, .slice none 0 0] rfl rfl HG4.out HBI.out rfl (all1 _ rfl) ?_); intro w99 hs__ hr__; replace HB := cg HB bup hr__ (by omega); clear HG4; have HG4 := Hd hs__; clear hs__ hr__; simp only [PT]))
  (try simp only [Exit.inBlock, Exit.then, Exit.noGoto_ret])
  refine z04 (cs := [.int .i64 0, .bool false, .int .u32 0, .int .i64 0, .int .u32 0, .int .i64 0, .int .u64 0, .int .u32 0, .slice none 0 0, .slice none 0 0, .slice none 0 0]) rfl rfl (z00 HG4.out) Try.underlying27 rfl HBI.out rfl ?_
  exact ⟨noneV, by rw [HO.out]; rfl, by rw [HO.out]; rfl, ⟨z1i _ _ _ _, OwnOps.nil _ _ _, OwnOps.nil _ _ _⟩, HB.out⟩
theorem refGet_long (ad : Option Addr) (n c : Nat) (l : List UInt8) (big : Bool) (w : World) (hs : Bs w ad n c l) (hn : n ≤ 1000000000) (h : 12 ≤ n) :
    Calls Try.prog 27 #[.slice ad n c, .bool big] w (GetR (getP big l) w) := by
  have HB := Hd (Below.refl w.heap.size w)
  have HS := Hd hs
  have HBI := Hd z0d
  have HI : Hid ((Try.prog.info? 49).map (·.size) = some 2) := Hd (by kernel_rfl)
  have hc := hs.le
  have HN := Hd hs.len
  clear hs
  have hi : ¬ (n : Int) < 12 := by omega
  obtain ⟨T, hT⟩ : ∃ x, x = getN ((l.drop 0).take 4) big := ⟨_, rfl⟩
  have bT : T < 4294967296 := by rw [hT]; exact w4_lt big l 0
  have HT := Hd hT
  clear hT
  have eT : IntKind.u32.wrap (T : Int) = (T : Int) := by rw [IntKind.wrap_u32]; omega
  obtain ⟨MB, hMB⟩ : ∃ x, x = (l.drop 8).take 4 := ⟨_, rfl⟩
  have hml : MB.length = 4 := by rw [hMB, List.length_take, List.length_drop]; have := HN.out; omega
  have HMB : Hid ((l.drop 8).take 4 = MB) := Hd hMB.symm
  have HQ : Hid (getP big l = if T = 168627466 then (if MB = [26, 43, 60, 77] then getQ true l T else if MB = [77, 60, 43, 26] then getQ false l T else (noneB, 0, 3)) else getQ big l T) := Hd (by
    have := HN.out
    unfold getP
    rw [if_neg (by omega), show w4 big l 0 = T from HT.out.symm]
    simp only [show w4 true l 8 = getN MB true by rw [hMB]; rfl, show w4 false l 8 = getN MB false by rw [hMB]; rfl, magic_true MB hml, magic_false MB hml])
  clear hMB hml
  go_enter Try.func27, Try.ntmps27
  go_upto_if 28 with (first
    | ((with_reducible refine sl 4 ?_); (refine z09 rfl 27 rfl (.agg #[.int .i64 0, .bool false, .int .u32 0, .int .i64 0, .int .u32 0, .int .i64 0, .int .u64 0, .int .u32 0, .slice none 0 0, .slice none 0 0, .slice none 0 0]) #[.int .i64 0, .bool false, .int .u32 0, .int .i64 0, .int .u32 0, .int .i64 0, .int .u64 0, .int .u32 0, .slice none 0 0, .slice none 0 0, .slice none 0 0] 11 (by kernel_rfl) rfl ?_); intro w1 g4 he__ le_g4 lt_g4 hg__ hb__; have HG4 := Hd hg__; have hE__ := cU HB bup hb__; replace HB := ck HB hE__; clear hE__; clear hg__ hb__ he__; simp only [PT])
    | ((with_reducible refine sl 7 ?_); (refine z09 rfl 27 rfl (.agg #[.int .i64 0, .bool false, .int .u32 0, .int .i64 0, .int .u32 0, .int .i64 0, .int .u64 0, .int .u32 0, .slice none 0 0, .slice none 0 0, .slice none 0 0]) #[.int .i64 0, .bool false, .int .u32 0, .int .i64 0, .int .u32 0, .int .i64 0, .int .u64 0, .int .u32 0, .slice none 0 0, .slice none 0 0, .slice none 0 0] 11 (by kernel_rfl) rfl ?_); intro w2 g7 he__ le_g7 lt_g7 hg__ hb__; have h47 : g4 < g7 := Nat.lt_of_lt_of_le (lt_of_block (by exact HG4.out)) le_g7; have HG7 := Hd hg__; have hE__ := cU HB bup hb__; replace HB := ck HB hE__; replace HG4 := ck HG4 hE__; clear hE__; clear hg__ hb__ he__; simp only [PT])
    | ((with_reducible show wpList _ _ _ (⟨none, .store _ (.tmp 7) (.tmp 17), _, _, _, _⟩ :: _) _ _); (refine z02 rfl 27 (.tmp 7) (.tmp 17) rfl g7 #[.int .i64 0, .bool false, .int .u32 0, .int .i64 0, .int .u32 0, .int .i64 0, .int .u64 0, .int .u32 0, .slice none 0 0, .slice none 0 0, .slice none 0 0] rfl rfl HG7.out HBI.out rfl (all1 _ rfl) ?_); intro w3 hs__ hr__; replace HB := cg HB bup hr__ (by omega); replace HG4 := cg HG4 bup hr__ (by omega); clear HG7; have HG7 := Hd hs__; clear hs__ hr__; simp only [PT])
    | ((with_reducible refine sl 23 ?_); (refine z0b elB rfl (.tmp 22) (some (.const (.int .i64 0))) (some (.const (.int .i64 4))) rfl rfl 0 4 (.inr ⟨.i64, rfl⟩) (.inr ⟨.i64, rfl⟩) (by omega) (by omega) 4 c rfl rfl ?_); intro ad23 had; have HA23 := Hd (Bs.partG HS.out 0 4 4 c (by omega) (by omega) rfl rfl ad23 had ((l.drop 0).take 4) rfl); clear had; simp only [PT])
    | (go_at_call 61; (with_reducible show Calls _ _ #[Value.slice ad23 _ _, _] _ _); (refine (z12 ad23 4 c _ big _ (HA23.out.below (HB.out.trans (Below.mono bup HB.out.size)))).mono ?_); intro e w4 hr; rw [← HT.out] at hr; obtain ⟨rfl, hw__⟩ := hr; subst hw__))
  go_cut [1, 8] from 17 (fun s1 s8 wx => ∃ G : Bool, s1 = .bool G ∧ s8 = .int .u32 (T : Int) ∧ Hid (getP big l = getQ G l T) ∧ wx.heap[g4]? = some (.cells #[.int .i64 0, .bool false, .int .u32 0, .int .i64 0, .int .u32 0, .int .i64 0, .int .u64 0, .int .u32 0, .slice none 0 0, .slice none 0 0, .slice none 0 0] 27 (0, 0)) ∧ wx.heap[g7]? = some (.cells #[.int .i64 0, .bool false, .int .u32 0, .int .i64 0, .int .u32 0, .int .i64 0, .int .u64 0, .int .u32 0, .slice none 0 0, .slice none 0 0, .slice none 0 0] 27 (0, 0)) ∧ Below w.heap.size w wx)
  case first =>
    by_cases hT : T = 168627466
    · have hTi : (T : Int) = 168627466 := by omega
      have HTT := Hd hT
      by_cases h1 : MB = [26, 43, 60, 77]
      · have HO : Hid (getP big l = getQ true l T) := Hd (by rw [HQ.out, if_pos hT, if_pos h1])
        subst h1
        clear hT HQ
        have s1 : ((strOf [26, 43, 60, 77]).toList == ([26, 43, 60, 77] : List UInt8)) = true := by rw [z16]; rfl
        have s3 : ((((strOf [26, 43, 60, 77])[0]'(by decide)).toNat : Int) == 26) = true := by rfl
        go_wp2_with (first
 | ((with_reducible refine sl 30 ?_); (refine z0b elB rfl (.tmp 29) (some (.const (.int .i64 8))) (some (.const (.int .i64 12))) rfl rfl 8 12 (.inr ⟨.i64, rfl⟩) (.inr ⟨.i64, rfl⟩) (by omega) (by omega) 4 (c - 8) rfl rfl ?_); intro ad30 had; have HA30 := Hd (Bs.partG HS.out 8 12 4 (c - 8) (by omega) (by omega) rfl rfl ad30 had ((l.drop 8).take 4) rfl); clear had; simp only [PT])
 | ((with_reducible refine sl 31 ?_); (refine z2h elB.1 (by kernel_rfl) (by kernel_rfl) rfl (.tmp 30) rfl rfl (HA30.out.below (HB.out.trans (Below.mono bup HB.out.size))) ?_); rw [HMB.out]; simp only [PT]))
        go_meet
        case rel => exact ⟨true, rfl, by rw [HTT.out]; rfl, HO, HG4.out, HG7.out, HB.out⟩
      · by_cases h2 : MB = [77, 60, 43, 26]
        · have HO : Hid (getP big l = getQ false l T) := Hd (by rw [HQ.out, if_pos hT, if_neg h1, if_pos h2])
          subst h2
          clear hT h1 HQ
          have s1 : ((strOf [77, 60, 43, 26]).toList == ([26, 43, 60, 77] : List UInt8)) = false := by rw [z16]; rfl
          have s2 : ((strOf [77, 60, 43, 26]).toList == ([77, 60, 43, 26] : List UInt8)) = true := by rw [z16]; rfl
          have s3 : ((((strOf [77, 60, 43, 26])[0]'(by decide)).toNat : Int) == 26) = false := by rfl
          go_wp2_with (first
 | ((with_reducible refine sl 30 ?_); (refine z0b elB rfl (.tmp 29) (some (.const (.int .i64 8))) (some (.const (.int .i64 12))) rfl rfl 8 12 (.inr ⟨.i64, rfl⟩) (.inr ⟨.i64, rfl⟩) (by omega) (by omega) 4 (c - 8) rfl rfl ?_); intro ad30 had; have HA30 := Hd (Bs.partG HS.out 8 12 4 (c - 8) (by omega) (by omega) rfl rfl ad30 had ((l.drop 8).take 4) rfl); clear had; simp only [PT])
 | ((with_reducible refine sl 31 ?_); (refine z2h elB.1 (by kernel_rfl) (by kernel_rfl) rfl (.tmp 30) rfl rfl (HA30.out.below (HB.out.trans (Below.mono bup HB.out.size))) ?_); rw [HMB.out]; simp only [PT]))
          go_meet
          case rel => exact ⟨false, rfl, by rw [HTT.out]; rfl, HO, HG4.out, HG7.out, HB.out⟩
        · have HO : Hid (getP big l = (noneB, 0, 3)) := Hd (by rw [HQ.out, if_pos hT, if_neg h1, if_neg h2])
          have s1 : ((strOf MB).toList == ([26, 43, 60, 77] : List UInt8)) = false := by rw [z16]; simpa using h1
          have s2 : ((strOf MB).toList == ([77, 60, 43, 26] : List UInt8)) = false := by rw [z16]; simpa using h2
          clear hT h1 h2 HQ
          go_wp2_with (first
 | ((with_reducible refine sl 30 ?_); (refine z0b elB rfl (.tmp 29) (some (.const (.int .i64 8))) (some (.const (.int .i64 12))) rfl rfl 8 12 (.inr ⟨.i64, rfl⟩) (.inr ⟨.i64, rfl⟩) (by omega) (by omega) 4 (c - 8) rfl rfl ?_); intro ad30 had; have HA30 := Hd (Bs.partG HS.out 8 12 4 (c - 8) (by omega) (by omega) rfl rfl ad30 had ((l.drop 8).take 4) rfl); clear had; simp only [PT])
 | ((with_reducible refine sl 31 ?_); (refine z2h elB.1 (by kernel_rfl) (by kernel_rfl) rfl (.tmp 30) rfl rfl (HA30.out.below (HB.out.trans (Below.mono bup HB.out.size))) ?_); rw [HMB.out]; simp only [PT])
 | ((with_reducible refine sl 38 ?_); (refine z05 rfl 27 (.tmp 7) rfl g7 0 rfl [.int .i64 0, .bool false, .int .u32 0, .int .i64 0, .int .u32 0, .int .i64 0, .int .u64 0, .int .u32 0, .slice none 0 0, .slice none 0 0, .slice none 0 0] _ (z00 HG7.out) Try.underlying27 rfl HBI.out ?_); simp only [PT])
 | ((with_reducible show wpList _ _ _ (⟨none, .store _ (.tmp 4) (.tmp 38), _, _, _, _⟩ :: _) _ _); (refine z02 rfl 27 (.tmp 4) (.tmp 38) rfl g4 #[.int .i64 0, .bool false, .int .u32 0, .int .i64 0, .int .u32 0, .int .i64 0, .int .u64 0, .int .u32 0, .slice none 0 0, .slice none 0 0, .slice none 0 0] rfl rfl HG4.out HBI.out rfl (all1 _ rfl) ?_); intro w99 hs__ hr__; replace HB := cg HB bup hr__ (by omega); clear HG4; have HG4 := Hd hs__; clear hs__ hr__; simp only [PT]))
          (try simp only [Exit.inBlock, Exit.then, Exit.noGoto_ret])
          refine z04 (cs := [.int .i64 0, .bool false, .int .u32 0, .int .i64 0, .int .u32 0, .int .i64 0, .int .u64 0, .int .u32 0, .slice none 0 0, .slice none 0 0, .slice none 0 0]) rfl rfl (z00 HG4.out) Try.underlying27 rfl HBI.out rfl ?_
          exact ⟨noneV, by rw [HO.out]; rfl, by rw [HO.out]; rfl, ⟨z1i _ _ _ _, OwnOps.nil _ _ _, OwnOps.nil _ _ _⟩, HB.out⟩
    · have hTi : ¬ (T : Int) = 168627466 := by omega
      have HO : Hid (getP big l = getQ big l T) := Hd (by rw [HQ.out, if_neg hT])
      clear hT HQ
      go_wp2_with fail
      go_meet
      case rel => exact ⟨big, rfl, rfl, HO, HG4.out, HG7.out, HB.out⟩
  case rest =>
    obtain ⟨G, rfl, rfl, HQG, hg4, hg7, hb4⟩ := hcut
    clear HB HQ
    have HB := Hd hb4
    have HG4 := Hd hg4
    have HG7 := Hd hg7
    clear hg4 hg7 hb4
    obtain ⟨N4, hN4⟩ : ∃ x, x = getN ((l.drop 4).take 4) G := ⟨_, rfl⟩
    have bN4 : N4 < 4294967296 := by rw [hN4]; exact w4_lt G l 4
    have HN4 := Hd hN4
    clear hN4
    obtain ⟨NL, hNL⟩ : ∃ x, x = getN ((l.drop (N4 - 4)).take 4) G := ⟨_, rfl⟩
    have bNL : NL < 4294967296 := by rw [hNL]; exact w4_lt G l (N4 - 4)
    have HNL := Hd hNL
    clear hNL
    have eN : IntKind.i64.wrap (N4 : Int) = (N4 : Int) := by rw [IntKind.wrap_i64]; omega
    have eL : IntKind.i64.wrap (NL : Int) = (NL : Int) := by rw [IntKind.wrap_i64]; omega
    have HQ : Hid (getP big l = if N4 < 12 ∨ N4 % 4 ≠ 0 then (noneB, 0, 3) else if 1048576 < N4 then (noneB, 0, 4) else if l.length < N4 then (noneB, 0, 2) else if NL ≠ N4 then (noneB, 0, 3)
        else endP G N4 (openP (kindP T) T ((l.take (N4 - 4)).drop 8) G)) := Hd (by
      rw [HQG.out]
      unfold getQ
      rw [show w4 G l 4 = N4 from HN4.out.symm, show w4 G l (N4 - 4) = NL from HNL.out.symm])
    clear HQG
    obtain ⟨J, hJ⟩ : ∃ J, J = N4 - 4 := ⟨_, rfl⟩
    rw [← hJ] at HNL HQ
    have HJ := Hd hJ
    clear hJ
    by_cases h1 : N4 < 12
    · have h1i : (N4 : Int) < 12 := by omega
      have hb2 : (decide ((N4 : Int) < 12) || (N4 : Int) % 4 != 0) = true := by simp [h1i]
      have HO : Hid (getP big l = (noneB, 0, 3)) := Hd (by rw [HQ.out, if_pos (.inl h1)])
      clear HQ HN
      go_wp2_with (first
 | ((with_reducible refine sl 43 ?_); (refine z0b elB rfl (.tmp 42) (some (.const (.int .i64 4))) (some (.const (.int .i64 8))) rfl rfl 4 8 (.inr ⟨.i64, rfl⟩) (.inr ⟨.i64, rfl⟩) (by omega) (by omega) 4 (c - 4) rfl rfl ?_); intro ad43 had; have HA43 := Hd (Bs.partG HS.out 4 8 4 (c - 4) (by omega) (by omega) rfl rfl ad43 had ((l.drop 4).take 4) rfl); clear had; simp only [PT])
 | (go_at_call 61; (with_reducible show Calls _ _ #[Value.slice ad43 _ _, _] _ _); (refine (z12 ad43 4 (c - 4) _ G _ (HA43.out.below (HB.out.trans (Below.mono bup HB.out.size)))).mono ?_); intro e w5 hr; rw [← HN4.out] at hr; obtain ⟨rfl, hw__⟩ := hr; subst hw__)
 | ((with_reducible refine sl 54 ?_); (refine z05 rfl 27 (.tmp 7) rfl g7 0 rfl [.int .i64 0, .bool false, .int .u32 0, .int .i64 0, .int .u32 0, .int .i64 0, .int .u64 0, .int .u32 0, .slice none 0 0, .slice none 0 0, .slice none 0 0] _ (z00 HG7.out) Try.underlying27 rfl HBI.out ?_); simp only [PT])
 | ((with_reducible show wpList _ _ _ (⟨none, .store _ (.tmp 4) (.tmp 54), _, _, _, _⟩ :: _) _ _); (refine z02 rfl 27 (.tmp 4) (.tmp 54) rfl g4 #[.int .i64 0, .bool false, .int .u32 0, .int .i64 0, .int .u32 0, .int .i64 0, .int .u64 0, .int .u32 0, .slice none 0 0, .slice none 0 0, .slice none 0 0] rfl rfl HG4.out HBI.out rfl (all1 _ rfl) ?_); intro w99 hs__ hr__; replace HB := cg HB bup hr__ (by omega); clear HG4; have HG4 := Hd hs__; clear hs__ hr__; simp only [PT]))
      (try simp only [Exit.inBlock, Exit.then, Exit.noGoto_ret])
      refine z04 (cs := [.int .i64 0, .bool false, .int .u32 0, .int .i64 0, .int .u32 0, .int .i64 0, .int .u64 0, .int .u32 0, .slice none 0 0, .slice none 0 0, .slice none 0 0]) rfl rfl (z00 HG4.out) Try.underlying27 rfl HBI.out rfl ?_
      exact ⟨noneV, by rw [HO.out]; rfl, by rw [HO.out]; rfl, ⟨z1i _ _ _ _, OwnOps.nil _ _ _, OwnOps.nil _ _ _⟩, HB.out⟩
    have h1i : ¬ (N4 : Int) < 12 := by omega
    by_cases h2 : N4 % 4 = 0
    rotate_left
    · have HO : Hid (getP big l = (noneB, 0, 3)) := Hd (by rw [HQ.out, if_pos (.inr h2)])
      have h2i : ¬ (N4 : Int) % 4 = 0 := by omega
      have hb2 : (decide ((N4 : Int) < 12) || (N4 : Int) % 4 != 0) = true := by simp [h1i, h2i]
      clear HQ HN
      go_wp2_with (first
 | ((with_reducible refine sl 43 ?_); (refine z0b elB rfl (.tmp 42) (some (.const (.int .i64 4))) (some (.const (.int .i64 8))) rfl rfl 4 8 (.inr ⟨.i64, rfl⟩) (.inr ⟨.i64, rfl⟩) (by omega) (by omega) 4 (c - 4) rfl rfl ?_); intro ad43 had; have HA43 := Hd (Bs.partG HS.out 4 8 4 (c - 4) (by omega) (by omega) rfl rfl ad43 had ((l.drop 4).take 4) rfl); clear had; simp only [PT])
 | (go_at_call 61; (with_reducible show Calls _ _ #[Value.slice ad43 _ _, _] _ _); (refine (z12 ad43 4 (c - 4) _ G _ (HA43.out.below (HB.out.trans (Below.mono bup HB.out.size)))).mono ?_); intro e w5 hr; rw [← HN4.out] at hr; obtain ⟨rfl, hw__⟩ := hr; subst hw__)
 | ((with_reducible refine sl 54 ?_); (refine z05 rfl 27 (.tmp 7) rfl g7 0 rfl [.int .i64 0, .bool false, .int .u32 0, .int .i64 0, .int .u32 0, .int .i64 0, .int .u64 0, .int .u32 0, .slice none 0 0, .slice none 0 0, .slice none 0 0] _ (z00 HG7.out) Try.underlying27 rfl HBI.out ?_); simp only [PT])
 | ((with_reducible show wpList _ _ _ (⟨none, .store _ (.tmp 4) (.tmp 54), _, _, _, _⟩ :: _) _ _); (refine z02 rfl 27 (.tmp 4) (.tmp 54) rfl g4 #[.int .i64 0, .bool false, .int .u32 0, .int .i64 0, .int .u32 0, .int .i64 0, .int .u64 0, .int .u32 0, .slice none 0 0, .slice none 0 0, .slice none 0 0] rfl rfl HG4.out HBI.out rfl (all1 _ rfl) ?_); intro w99 hs__ hr__; replace HB := cg HB bup hr__ (by omega); clear HG4; have HG4 := Hd hs__; clear hs__ hr__; simp only [PT]))
      (try simp only [Exit.inBlock, Exit.then, Exit.noGoto_ret])
      refine z04 (cs := [.int .i64 0, .bool false, .int .u32 0, .int .i64 0, .int .u32 0, .int .i64 0, .int .u64 0, .int .u32 0, .slice none 0 0, .slice none 0 0, .slice none 0 0]) rfl rfl (z00 HG4.out) Try.underlying27 rfl HBI.out rfl ?_
      exact ⟨noneV, by rw [HO.out]; rfl, by rw [HO.out]; rfl, ⟨z1i _ _ _ _, OwnOps.nil _ _ _, OwnOps.nil _ _ _⟩, HB.out⟩
    have h2i : (N4 : Int) % 4 = 0 := by omega
    have hb2 : (decide ((N4 : Int) < 12) || (N4 : Int) % 4 != 0) = false := by simp [h1i, h2i]
    replace HQ := Hd (HQ.out.trans (if_neg (by omega)))
    by_cases h3 : 1048576 < N4
    · have h3i : (1048576 : Int) < (N4 : Int) := by omega
      have HO : Hid (getP big l = (noneB, 0, 4)) := Hd (by rw [HQ.out, if_pos h3])
      clear HQ HN
      go_wp2_with (first
 | ((with_reducible refine sl 43 ?_); (refine z0b elB rfl (.tmp 42) (some (.const (.int .i64 4))) (some (.const (.int .i64 8))) rfl rfl 4 8 (.inr ⟨.i64, rfl⟩) (.inr ⟨.i64, rfl⟩) (by omega) (by omega) 4 (c - 4) rfl rfl ?_); intro ad43 had; have HA43 := Hd (Bs.partG HS.out 4 8 4 (c - 4) (by omega) (by omega) rfl rfl ad43 had ((l.drop 4).take 4) rfl); clear had; simp only [PT])
 | (go_at_call 61; (with_reducible show Calls _ _ #[Value.slice ad43 _ _, _] _ _); (refine (z12 ad43 4 (c - 4) _ G _ (HA43.out.below (HB.out.trans (Below.mono bup HB.out.size)))).mono ?_); intro e w5 hr; rw [← HN4.out] at hr; obtain ⟨rfl, hw__⟩ := hr; subst hw__)
 | ((with_reducible refine sl 57 ?_); (refine z05 rfl 27 (.tmp 7) rfl g7 0 rfl [.int .i64 0, .bool false, .int .u32 0, .int .i64 0, .int .u32 0, .int .i64 0, .int .u64 0, .int .u32 0, .slice none 0 0, .slice none 0 0, .slice none 0 0] _ (z00 HG7.out) Try.underlying27 rfl HBI.out ?_); simp only [PT])
 | ((with_reducible show wpList _ _ _ (⟨none, .store _ (.tmp 4) (.tmp 57), _, _, _, _⟩ :: _) _ _); (refine z02 rfl 27 (.tmp 4) (.tmp 57) rfl g4 #[.int .i64 0, .bool false, .int .u32 0, .int .i64 0, .int .u32 0, .int .i64 0, .int .u64 0, .int .u32 0, .slice none 0 0, .slice none 0 0, .slice none 0 0] rfl rfl HG4.out HBI.out rfl (all1 _ rfl) ?_); intro w99 hs__ hr__; replace HB := cg HB bup hr__ (by omega); clear HG4; have HG4 := Hd hs__; clear hs__ hr__; simp only [PT]))
      (try simp only [Exit.inBlock, Exit.then, Exit.noGoto_ret])
      refine z04 (cs := [.int .i64 0, .bool false, .int .u32 0, .int .i64 0, .int .u32 0, .int .i64 0, .int .u64 0, .int .u32 0, .slice none 0 0, .slice none 0 0, .slice none 0 0]) rfl rfl (z00 HG4.out) Try.underlying27 rfl HBI.out rfl ?_
      exact ⟨noneV, by rw [HO.out]; rfl, by rw [HO.out]; rfl, ⟨z1i _ _ _ _, OwnOps.nil _ _ _, OwnOps.nil _ _ _⟩, HB.out⟩
    have h3i : ¬ (1048576 : Int) < (N4 : Int) := by omega
    replace HQ := Hd (HQ.out.trans (if_neg h3))
    by_cases h4 : n < N4
    · have h4i : (n : Int) < (N4 : Int) := by omega
      have HO : Hid (getP big l = (noneB, 0, 2)) := Hd (by rw [HQ.out, if_pos (by have := HN.out; omega)])
      clear HQ HN
      go_wp2_with (first
 | ((with_reducible refine sl 43 ?_); (refine z0b elB rfl (.tmp 42) (some (.const (.int .i64 4))) (some (.const (.int .i64 8))) rfl rfl 4 8 (.inr ⟨.i64, rfl⟩) (.inr ⟨.i64, rfl⟩) (by omega) (by omega) 4 (c - 4) rfl rfl ?_); intro ad43 had; have HA43 := Hd (Bs.partG HS.out 4 8 4 (c - 4) (by omega) (by omega) rfl rfl ad43 had ((l.drop 4).take 4) rfl); clear had; simp only [PT])
 | (go_at_call 61; (with_reducible show Calls _ _ #[Value.slice ad43 _ _, _] _ _); (refine (z12 ad43 4 (c - 4) _ G _ (HA43.out.below (HB.out.trans (Below.mono bup HB.out.size)))).mono ?_); intro e w5 hr; rw [← HN4.out] at hr; obtain ⟨rfl, hw__⟩ := hr; subst hw__)
 | ((with_reducible refine sl 62 ?_); (refine z05 rfl 27 (.tmp 7) rfl g7 0 rfl [.int .i64 0, .bool false, .int .u32 0, .int .i64 0, .int .u32 0, .int .i64 0, .int .u64 0, .int .u32 0, .slice none 0 0, .slice none 0 0, .slice none 0 0] _ (z00 HG7.out) Try.underlying27 rfl HBI.out ?_); simp only [PT])
 | ((with_reducible show wpList _ _ _ (⟨none, .store _ (.tmp 4) (.tmp 62), _, _, _, _⟩ :: _) _ _); (refine z02 rfl 27 (.tmp 4) (.tmp 62) rfl g4 #[.int .i64 0, .bool false, .int .u32 0, .int .i64 0, .int .u32 0, .int .i64 0, .int .u64 0, .int .u32 0, .slice none 0 0, .slice none 0 0, .slice none 0 0] rfl rfl HG4.out HBI.out rfl (all1 _ rfl) ?_); intro w99 hs__ hr__; replace HB := cg HB bup hr__ (by omega); clear HG4; have HG4 := Hd hs__; clear hs__ hr__; simp only [PT]))
      (try simp only [Exit.inBlock, Exit.then, Exit.noGoto_ret])
      refine z04 (cs := [.int .i64 0, .bool false, .int .u32 0, .int .i64 0, .int .u32 0, .int .i64 0, .int .u64 0, .int .u32 0, .slice none 0 0, .slice none 0 0, .slice none 0 0]) rfl rfl (z00 HG4.out) Try.underlying27 rfl HBI.out rfl ?_
      exact ⟨noneV, by rw [HO.out]; rfl, by rw [HO.out]; rfl, ⟨z1i _ _ _ _, OwnOps.nil _ _ _, OwnOps.nil _ _ _⟩, HB.out⟩
    have h4i : ¬ (n : Int) < (N4 : Int) := by omega
    replace HQ := Hd (HQ.out.trans (if_neg (by have := HN.out; omega)))
    have j1 : J + 4 ≤ N4 := by have := HJ.out; omega
    have j2 : N4 ≤ J + 4 := by have := HJ.out; omega
    have j3 : (N4 : Int) - 4 = (J : Int) := by omega
    have j4 : IntKind.i64.wrap ((N4 : Int) - 4) = (J : Int) := by rw [IntKind.wrap_i64]; omega
    have j5 : IntKind.i64.wrap (J : Int) = (J : Int) := by rw [IntKind.wrap_i64]; omega
    have HNJ : Hid (N4 - J = 4) := Hd (by omega)
    by_cases h5 : NL = N4
    rotate_left
    · have h5i : ¬ (NL : Int) = (N4 : Int) := by omega
      have HO : Hid (getP big l = (noneB, 0, 3)) := Hd (by rw [HQ.out, if_pos h5])
      clear HQ HN
      go_wp2_with (first
 | ((with_reducible refine sl 43 ?_); (refine z0b elB rfl (.tmp 42) (some (.const (.int .i64 4))) (some (.const (.int .i64 8))) rfl rfl 4 8 (.inr ⟨.i64, rfl⟩) (.inr ⟨.i64, rfl⟩) (by omega) (by omega) 4 (c - 4) rfl rfl ?_); intro ad43 had; have HA43 := Hd (Bs.partG HS.out 4 8 4 (c - 4) (by omega) (by omega) rfl rfl ad43 had ((l.drop 4).take 4) rfl); clear had; simp only [PT])
 | (go_at_call 61; (with_reducible show Calls _ _ #[Value.slice ad43 _ _, _] _ _); (refine (z12 ad43 4 (c - 4) _ G _ (HA43.out.below (HB.out.trans (Below.mono bup HB.out.size)))).mono ?_); intro e w5 hr; rw [← HN4.out] at hr; obtain ⟨rfl, hw__⟩ := hr; subst hw__)
 | ((with_reducible refine sl 67 ?_); (refine z0b elB rfl (.tmp 63) (some (.tmp 65)) (some (.tmp 66)) rfl rfl J N4 (.inr ⟨.i64, rfl⟩) (.inr ⟨.i64, rfl⟩) (by omega) (by omega) 4 (c - J) HNJ.out rfl ?_); intro ad67 had; have HA67 := Hd (Bs.partG HS.out J N4 4 (c - J) (by omega) (by omega) HNJ.out rfl ad67 had ((l.drop J).take 4) rfl); clear had; simp only [PT])
 | (go_at_call 61; (with_reducible show Calls _ _ #[Value.slice ad67 _ _, _] _ _); (refine (z12 ad67 4 (c - J) _ G _ (HA67.out.below (HB.out.trans (Below.mono bup HB.out.size)))).mono ?_); intro e w6 hr; rw [← HNL.out] at hr; obtain ⟨rfl, hw__⟩ := hr; subst hw__)
 | ((with_reducible refine sl 73 ?_); (refine z05 rfl 27 (.tmp 7) rfl g7 0 rfl [.int .i64 0, .bool false, .int .u32 0, .int .i64 0, .int .u32 0, .int .i64 0, .int .u64 0, .int .u32 0, .slice none 0 0, .slice none 0 0, .slice none 0 0] _ (z00 HG7.out) Try.underlying27 rfl HBI.out ?_); simp only [PT])
 | ((with_reducible show wpList _ _ _ (⟨none, .store _ (.tmp 4) (.tmp 73), _, _, _, _⟩ :: _) _ _); (refine z02 rfl 27 (.tmp 4) (.tmp 73) rfl g4 #[.int .i64 0, .bool false, .int .u32 0, .int .i64 0, .int .u32 0, .int .i64 0, .int .u64 0, .int .u32 0, .slice none 0 0, .slice none 0 0, .slice none 0 0] rfl rfl HG4.out HBI.out rfl (all1 _ rfl) ?_); intro w99 hs__ hr__; replace HB := cg HB bup hr__ (by omega); clear HG4; have HG4 := Hd hs__; clear hs__ hr__; simp only [PT]))
      (try simp only [Exit.inBlock, Exit.then, Exit.noGoto_ret])
      refine z04 (cs := [.int .i64 0, .bool false, .int .u32 0, .int .i64 0, .int .u32 0, .int .i64 0, .int .u64 0, .int .u32 0, .slice none 0 0, .slice none 0 0, .slice none 0 0]) rfl rfl (z00 HG4.out) Try.underlying27 rfl HBI.out rfl ?_
      exact ⟨noneV, by rw [HO.out]; rfl, by rw [HO.out]; rfl, ⟨z1i _ _ _ _, OwnOps.nil _ _ _, OwnOps.nil _ _ _⟩, HB.out⟩
    replace HQ := Hd (HQ.out.trans (if_neg (fun e => e h5)))
    have HNE : Hid (N4 = getN ((l.drop J).take 4) G) := Hd (by rw [← h5]; exact HNL.out)
    clear h5 HNL eL bNL
    obtain ⟨KD, hKD⟩ : ∃ K, K = kindP T := ⟨_, rfl⟩
    obtain ⟨TT, hTT⟩ : ∃ x, x = if KD = 7 then T else 0 := ⟨_, rfl⟩
    obtain ⟨D, hD⟩ : ∃ D, D = (l.drop 8).take (J - 8) := ⟨_, rfl⟩
    obtain ⟨O, hO⟩ : ∃ O, O = openP KD T D G := ⟨_, rfl⟩
    have hDe : (l.take J).drop 8 = D := by rw [hD, List.drop_take]
    have hj8 : 8 ≤ J := by omega
    have HOPN : Hid (∀ ad n c w, Bs w ad n c D → n ≤ 1048576 → Calls Try.prog 62 #[.agg #[.int .i64 KD, .bool false, .int .u32 ((TT : Nat) : Int), .int .i64 0, .int .u32 0, .int .i64 0, .int .u64 0, .int .u32 0, .slice none 0 0, .slice none 0 0, .slice none 0 0], .slice ad n c, .bool G] w (OpenR ad n c D O w)) := Hd (fun ad n c w hs hn => by
      rw [hO, hTT, hKD]
      exact refOpen_any T ad n c D G w hs hn)
    have HK : Hid (∀ w, Calls Try.prog 51 #[.int .u32 (T : Int)] w fun e w' => e = .returned (.int .i64 KD) ∧ Below w.heap.size w w') := Hd (fun w => by rw [hKD]; exact refKind_any T bT w)
    rw [hDe, ← hKD, ← hO] at HQ
    have HTT := Hd hTT
    have HORL : Hid (∀ x r, O = some (x, r) → r.length ≤ 1000000000) := Hd (fun x r h => by
      have h1 := open_rest (hO.symm.trans h)
      rw [hD, List.length_take] at h1
      omega)
    have HD := Hd hD.symm
    clear hKD hTT hD hO hDe
    go_upto_if 79 with (first
      | ((with_reducible refine sl 43 ?_); (refine z0b elB rfl (.tmp 42) (some (.const (.int .i64 4))) (some (.const (.int .i64 8))) rfl rfl 4 8 (.inr ⟨.i64, rfl⟩) (.inr ⟨.i64, rfl⟩) (by omega) (by omega) 4 (c - 4) rfl rfl ?_); intro ad43 had; have HA43 := Hd (Bs.partG HS.out 4 8 4 (c - 4) (by omega) (by omega) rfl rfl ad43 had ((l.drop 4).take 4) rfl); clear had; simp only [PT])
      | (go_at_call 61; (with_reducible show Calls _ _ #[Value.slice ad43 _ _, _] _ _); (refine (z12 ad43 4 (c - 4) _ G _ (HA43.out.below (HB.out.trans (Below.mono bup HB.out.size)))).mono ?_); intro e w5 hr; rw [← HN4.out] at hr; obtain ⟨rfl, hw__⟩ := hr; subst hw__)
      | ((with_reducible refine sl 67 ?_); (refine z0b elB rfl (.tmp 63) (some (.tmp 65)) (some (.tmp 66)) rfl rfl J N4 (.inr ⟨.i64, rfl⟩) (.inr ⟨.i64, rfl⟩) (by omega) (by omega) 4 (c - J) HNJ.out rfl ?_); intro ad67 had; have HA67 := Hd (Bs.partG HS.out J N4 4 (c - J) (by omega) (by omega) HNJ.out rfl ad67 had ((l.drop J).take 4) rfl); clear had; simp only [PT])
      | (go_at_call 61; (with_reducible show Calls _ _ #[Value.slice ad67 _ _, _] _ _); (refine (z12 ad67 4 (c - J) _ G _ (HA67.out.below (HB.out.trans (Below.mono bup HB.out.size)))).mono ?_); intro e w6 hr; rw [← HNE.out] at hr; obtain ⟨rfl, hw__⟩ := hr; subst hw__)
      | (go_at_call 51; (refine (HK.out _).mono ?_); intro e w7 hr; obtain ⟨rfl, hb__⟩ := hr; have hE__ := cU HB bup hb__; replace HB := ck HB hE__; replace HG4 := ck HG4 hE__; replace HG7 := ck HG7 hE__; clear hE__; clear hb__)
      | ((with_reducible refine sl 11 ?_); (refine z09 rfl 27 rfl (.agg #[.int .i64 0, .bool false, .int .u32 0, .int .i64 0, .int .u32 0, .int .i64 0, .int .u64 0, .int .u32 0, .slice none 0 0, .slice none 0 0, .slice none 0 0]) #[.int .i64 0, .bool false, .int .u32 0, .int .i64 0, .int .u32 0, .int .i64 0, .int .u64 0, .int .u32 0, .slice none 0 0, .slice none 0 0, .slice none 0 0] 11 (by kernel_rfl) rfl ?_); intro w8 g11 he__ le_g11 lt_g11 hg__ hb__; have h411 : g4 < g11 := Nat.lt_of_lt_of_le (lt_of_block (by exact HG4.out)) le_g11; have h711 : g7 < g11 := Nat.lt_of_lt_of_le (lt_of_block (by exact HG7.out)) le_g11; have HG11 := Hd hg__; have hE__ := cU HB bup hb__; replace HB := ck HB hE__; replace HG4 := ck HG4 hE__; replace HG7 := ck HG7 hE__; clear hE__; clear hg__ hb__ he__; simp only [PT])
      | ((with_reducible show wpList _ _ _ (⟨none, .store _ (.tmp 11) (.tmp 76), _, _, _, _⟩ :: _) _ _); (refine z02 rfl 27 (.tmp 11) (.tmp 76) rfl g11 #[.int .i64 KD, .bool false, .int .u32 0, .int .i64 0, .int .u32 0, .int .i64 0, .int .u64 0, .int .u32 0, .slice none 0 0, .slice none 0 0, .slice none 0 0] rfl rfl HG11.out HBI.out rfl (all1 _ rfl) ?_); intro w9 hs__ hr__; replace HB := cg HB bup hr__ (by omega); replace HG4 := cg HG4 bup hr__ (by omega); replace HG7 := cg HG7 bup hr__ (by omega); clear HG11; have HG11 := Hd hs__; clear hs__ hr__; simp only [PT])
      | ((with_reducible refine sl 78 ?_); (refine z01 rfl 3 (.tmp 77) rfl g11 0 rfl (.int .i64 KD) HG11.out rfl Try.underlying3 rfl ?_); simp only [PT]))
    go_cut [] from 17 (fun wx => wx.heap[g11]? = some (.cells #[.int .i64 KD, .bool false, .int .u32 ((TT : Nat) : Int), .int .i64 0, .int .u32 0, .int .i64 0, .int .u64 0, .int .u32 0, .slice none 0 0, .slice none 0 0, .slice none 0 0] 27 (0, 0)) ∧ wx.heap[g4]? = some (.cells #[.int .i64 0, .bool false, .int .u32 0, .int .i64 0, .int .u32 0, .int .i64 0, .int .u64 0, .int .u32 0, .slice none 0 0, .slice none 0 0, .slice none 0 0] 27 (0, 0)) ∧ wx.heap[g7]? = some (.cells #[.int .i64 0, .bool false, .int .u32 0, .int .i64 0, .int .u32 0, .int .i64 0, .int .u64 0, .int .u32 0, .slice none 0 0, .slice none 0 0, .slice none 0 0] 27 (0, 0)) ∧ Below w.heap.size w wx)
    case first =>
      by_cases hk7 : KD = 7
      · have HK7 := Hd hk7
        go_wp2_with (first
 | ((with_reducible show wpList _ _ _ (⟨none, .store _ (.tmp 81) (.tmp 80), _, _, _, _⟩ :: _) _ _); (refine z0c rfl 22 (.tmp 81) (.tmp 80) rfl g11 2 (.int .u32 (T : Int)) rfl rfl rfl HG11.out (by simp) (by kernel_rfl) #[.int .i64 KD, .bool false, .int .u32 (T : Int), .int .i64 0, .int .u32 0, .int .i64 0, .int .u64 0, .int .u32 0, .slice none 0 0, .slice none 0 0, .slice none 0 0] rfl ?_); intro w10 hs__ hr__; replace HB := cg HB bup hr__ (by omega); replace HG4 := cg HG4 bup hr__ (by omega); replace HG7 := cg HG7 bup hr__ (by omega); clear HG11; have HG11 := Hd hs__; clear hs__ hr__; simp only [PT]))
        go_meet
        case rel => exact ⟨by rw [HTT.out, if_pos HK7.out]; exact HG11.out, HG4.out, HG7.out, HB.out⟩
      · have HK7 := Hd hk7
        go_wp2_with fail
        go_meet
        case rel => exact ⟨by rw [HTT.out, if_neg HK7.out]; exact HG11.out, HG4.out, HG7.out, HB.out⟩
    case rest =>
      obtain ⟨hg11, hg4, hg7, hb4⟩ := hcut
      clear HB HG4 HG7 HG11
      have HB := Hd hb4
      have HG4 := Hd hg4
      have HG7 := Hd hg7
      have HG11 := Hd hg11
      clear hg11 hg4 hg7 hb4
      cases O with
      | none =>
        have HO : Hid (getP big l = (noneB, 0, 3)) := Hd HQ.out
        clear HQ HN
        go_upto_region 22 with fail
        go_cut [14] from 17 (fun s14 wx => s14 = .bool false ∧ wx.heap[g4]? = some (.cells #[.int .i64 0, .bool false, .int .u32 0, .int .i64 0, .int .u32 0, .int .i64 0, .int .u64 0, .int .u32 0, .slice none 0 0, .slice none 0 0, .slice none 0 0] 27 (0, 0)) ∧ wx.heap[g7]? = some (.cells #[.int .i64 0, .bool false, .int .u32 0, .int .i64 0, .int .u32 0, .int .i64 0, .int .u64 0, .int .u32 0, .slice none 0 0, .slice none 0 0, .slice none 0 0] 27 (0, 0)) ∧ Below w.heap.size w wx)
        case first =>
          refine wp_region_held_drew (S := fun u => True) (by kernel_rfl) ?_ (fun hHeld => ?_); (focus (exact trivial)); (refine tk 1 (oi := ⟨some 84, _, _, _, _, _⟩) (v := ?_) rfl (by kernel_rfl) (.inl ⟨by rfl, ?_⟩) hHeld ?_; rotate_left; focus (intro w hSw; (try dsimp only at hSw); go_simp; try with_reducible rfl)); simp only [PT]; (refine tk 2 (oi := ⟨some 85, _, _, _, _, _⟩) (v := ?_) rfl (by kernel_rfl) (.inl ⟨by rfl, ?_⟩) hHeld ?_; rotate_left; focus (intro w hSw; (try dsimp only at hSw); go_simp; try with_reducible rfl)); simp only [PT]; (refine' tk 3 (oi := ⟨some 86, _, _, _, _, _⟩) (v := (.int .i64 (J : Int))) rfl (by kernel_rfl) (.inl ⟨by rfl, ?_⟩) hHeld ?_; focus (intro w hSw; (try dsimp only at hSw); go_simp; first | done | rfl | (simp [*]; done) | (simp [*]; omega))); simp only [PT]; refine' tk 4 (oi := ⟨some 87, _, _, _, _, _⟩) (v := _) rfl (by kernel_rfl) (z14 elB rfl (.tmp 84) (some (.const (.int .i64 8))) (some (.tmp 86)) rfl rfl 8 J (.inr ⟨.i64, rfl⟩) (.inr ⟨.i64, rfl⟩) hj8 (by omega)) hHeld ?_; simp only [PT]; (refine tk 5 (oi := ⟨some 88, _, _, _, _, _⟩) (v := ?_) rfl (by kernel_rfl) (.inl ⟨by rfl, ?_⟩) hHeld ?_; rotate_left; focus (intro w hSw; (try dsimp only at hSw); go_simp; try with_reducible rfl)); simp only [PT]; refine wpAnyH_ready (rs := [0, 11]) (by kernel_rfl) (by simp) ?_; refine (AllReadyH.cons (o := ⟨some 83, _, _, _, _, _⟩) rfl (fun K hK => ?_) (AllReadyH.cons (o := ⟨some 12, _, _, _, _, _⟩) rfl (fun K hK => ?_) AllReadyH.nil)); ((refine z1m rfl 27 (.tmp 11) rfl g11 0 rfl [.int .i64 KD, .bool false, .int .u32 ((TT : Nat) : Int), .int .i64 0, .int .u32 0, .int .i64 0, .int .u64 0, .int .u32 0, .slice none 0 0, .slice none 0 0, .slice none 0 0] _ (by exact z00 HG11.out) Try.underlying27 rfl HBI.out ?_)); refine hK.out _ _ ?_ (fun hHeld => ?_); (focus (exact trivial)); clear hK K; (try simp only [PT]); refine wpAnyH_ready (rs := [6, 11]) (by kernel_rfl) (by simp) ?_; refine (AllReadyH.cons (o := ⟨some 89, _, _, _, _, _⟩) rfl (fun K hK => ?_) (AllReadyH.cons (o := ⟨some 12, _, _, _, _, _⟩) rfl (fun K hK => ?_) AllReadyH.nil)); (focus (go_simp; have HAB : ∀ w0, Bs w0 ad n c l → Bs w0 (subAd ad c 8 1) (J - 8) (c - 8) D := fun w0 h0 => (by rw [← HD.out]; exact Bs.part h0 8 J hj8 (by omega)); (refine (HOPN.out _ (J - 8) (c - 8) _ (HAB _ (HS.out.below (HB.out.trans (Below.mono bup HB.out.size)))) (by omega)).mono ?_); intro e w11 hr; obtain ⟨v, rad, rn, rc, ok, rfl, hok, hgood, hb__⟩ := hr; have hok2 : ok = false := hok; subst hok2; (first | (have hE__ := cU HB bup hb__; replace HB := ck HB hE__; replace HG4 := ck HG4 hE__; replace HG7 := ck HG7 hE__; replace HG11 := ck HG11 hE__; replace HG12 := ck HG12 hE__; clear hE__) | (have hE__ := cU HB bup hb__; replace HB := ck HB hE__; replace HG4 := ck HG4 hE__; replace HG7 := ck HG7 hE__; replace HG11 := ck HG11 hE__; clear hE__)); clear hb__ hok hgood; go_wp2_with fail)); refine hK.out _ _ ?_ (fun hHeld => ?_); (focus (exact trivial)); clear hK K; (try simp only [PT]); (refine tk 7 (oi := ⟨some 82, _, _, _, _, _⟩) (v := ?_) rfl (by kernel_rfl) (.inl ⟨by rfl, ?_⟩) hHeld ?_; rotate_left; focus (intro w hSw; (try dsimp only at hSw); go_simp; try with_reducible rfl)); simp only [PT]; (refine tk 8 (oi := ⟨some 90, _, _, _, _, _⟩) (v := ?_) rfl (by kernel_rfl) (.inl ⟨by rfl, ?_⟩) hHeld ?_; rotate_left; focus (intro w hSw; (try dsimp only at hSw); go_simp; try with_reducible rfl)); simp only [PT]; (refine tk 9 (oi := ⟨some 91, _, _, _, _, _⟩) (v := ?_) rfl (by kernel_rfl) (.inl ⟨by rfl, ?_⟩) hHeld ?_; rotate_left; focus (intro w hSw; (try dsimp only at hSw); go_simp; try with_reducible rfl)); simp only [PT]; (refine tk 10 (oi := ⟨some 92, _, _, _, _, _⟩) (v := ?_) rfl (by kernel_rfl) (.inl ⟨by rfl, ?_⟩) hHeld ?_; rotate_left; focus (intro w hSw; (try dsimp only at hSw); go_simp; try with_reducible rfl)); simp only [PT]; refine wpAnyH_ready (rs := [11]) (by kernel_rfl) (by simp) ?_
          refine (AllReadyH.cons (o := ⟨some 12, _, _, _, _, _⟩) rfl (fun K hK => ?_) AllReadyH.nil); ((refine z2t rfl 27 rfl (.agg #[.int .i64 0, .bool false, .int .u32 0, .int .i64 0, .int .u32 0, .int .i64 0, .int .u64 0, .int .u32 0, .slice none 0 0, .slice none 0 0, .slice none 0 0]) #[.int .i64 0, .bool false, .int .u32 0, .int .i64 0, .int .u32 0, .int .i64 0, .int .u64 0, .int .u32 0, .slice none 0 0, .slice none 0 0, .slice none 0 0] 11 (by kernel_rfl) rfl ?_); intro w12 g12 le_g12 lt_g12 hg__ hb__; have l412 : g4 < g12 := Nat.lt_of_lt_of_le (lt_of_block (by exact HG4.out)) le_g12; have l712 : g7 < g12 := Nat.lt_of_lt_of_le (lt_of_block (by exact HG7.out)) le_g12; have HG12 := Hd hg__; (first | (have HAP := Hd (OwnBlk.apart_lt HX.out le_g12); have hE__ := cU HB bup hb__; replace HB := ck HB hE__; replace HG4 := ck HG4 hE__; replace HG7 := ck HG7 hE__; replace HG11 := ck HG11 hE__; replace HX := ck HX hE__; clear hE__) | (have hE__ := cU HB bup hb__; replace HB := ck HB hE__; replace HG4 := ck HG4 hE__; replace HG7 := ck HG7 hE__; replace HG11 := ck HG11 hE__; clear hE__)); clear hg__ hb__); refine hK.out _ _ ?_ (fun hHeld => ?_); (focus (exact trivial)); clear hK K; (try simp only [PT]); refine wpAnyH_ready (rs := [12]) (by kernel_rfl) (by simp) ?_; refine (AllReadyH.cons (o := ⟨none, _, _, _, _, _⟩) rfl (fun K hK => ?_) AllReadyH.nil); ((refine z0j rfl 27 (.tmp 12) (.tmp 90) rfl g12 v.cells.toArray rfl rfl HG12.out HBI.out rfl (z0h v) ?_); intro w13 hs__ hr__; replace HB := cg HB bup hr__ (by omega); replace HG4 := cg HG4 bup hr__ (by omega); replace HG7 := cg HG7 bup hr__ (by omega); clear HG12; have HG12 := Hd hs__; clear hs__ hr__); refine hK.out _ _ ?_ (fun hHeld => ?_); (focus (exact trivial)); clear hK K; (try simp only [PT]); (refine tk 13 (oi := ⟨some 13, _, _, _, _, _⟩) (v := ?_) rfl (by kernel_rfl) (.inl ⟨by rfl, ?_⟩) hHeld ?_; rotate_left; focus (intro w hSw; (try dsimp only at hSw); go_simp; try with_reducible rfl)); simp only [PT]; (refine tk 14 (oi := ⟨some 14, _, _, _, _, _⟩) (v := ?_) rfl (by kernel_rfl) (.inl ⟨by rfl, ?_⟩) hHeld ?_; rotate_left; focus (intro w hSw; (try dsimp only at hSw); go_simp; try with_reducible rfl)); simp only [PT]; refine wpAnyH_done (by kernel_rfl) ?_ _; rotate_left; ((refine z2t rfl 27 rfl (.agg #[.int .i64 0, .bool false, .int .u32 0, .int .i64 0, .int .u32 0, .int .i64 0, .int .u64 0, .int .u32 0, .slice none 0 0, .slice none 0 0, .slice none 0 0]) #[.int .i64 0, .bool false, .int .u32 0, .int .i64 0, .int .u32 0, .int .i64 0, .int .u64 0, .int .u32 0, .slice none 0 0, .slice none 0 0, .slice none 0 0] 11 (by kernel_rfl) rfl ?_); intro w12 g12 le_g12 lt_g12 hg__ hb__; have l412 : g4 < g12 := Nat.lt_of_lt_of_le (lt_of_block (by exact HG4.out)) le_g12; have l712 : g7 < g12 := Nat.lt_of_lt_of_le (lt_of_block (by exact HG7.out)) le_g12; have HG12 := Hd hg__; (first | (have HAP := Hd (OwnBlk.apart_lt HX.out le_g12); have hE__ := cU HB bup hb__; replace HB := ck HB hE__; replace HG4 := ck HG4 hE__; replace HG7 := ck HG7 hE__; replace HG11 := ck HG11 hE__; replace HX := ck HX hE__; clear hE__) | (have hE__ := cU HB bup hb__; replace HB := ck HB hE__; replace HG4 := ck HG4 hE__; replace HG7 := ck HG7 hE__; replace HG11 := ck HG11 hE__; clear hE__)); clear hg__ hb__); refine hK.out _ _ ?_ (fun hHeld => ?_); (focus (exact trivial)); clear hK K; (try simp only [PT]); refine wpAnyH_ready (rs := [6]) (by kernel_rfl) (by simp) ?_; refine (AllReadyH.cons (o := ⟨some 89, _, _, _, _, _⟩) rfl (fun K hK => ?_) AllReadyH.nil)
          (focus (go_simp; have HAB : ∀ w0, Bs w0 ad n c l → Bs w0 (subAd ad c 8 1) (J - 8) (c - 8) D := fun w0 h0 => (by rw [← HD.out]; exact Bs.part h0 8 J hj8 (by omega)); (refine (HOPN.out _ (J - 8) (c - 8) _ (HAB _ (HS.out.below (HB.out.trans (Below.mono bup HB.out.size)))) (by omega)).mono ?_); intro e w11 hr; obtain ⟨v, rad, rn, rc, ok, rfl, hok, hgood, hb__⟩ := hr; have hok2 : ok = false := hok; subst hok2; (first | (have hE__ := cU HB bup hb__; replace HB := ck HB hE__; replace HG4 := ck HG4 hE__; replace HG7 := ck HG7 hE__; replace HG11 := ck HG11 hE__; replace HG12 := ck HG12 hE__; clear hE__) | (have hE__ := cU HB bup hb__; replace HB := ck HB hE__; replace HG4 := ck HG4 hE__; replace HG7 := ck HG7 hE__; replace HG11 := ck HG11 hE__; clear hE__)); clear hb__ hok hgood; go_wp2_with fail)); refine hK.out _ _ ?_ (fun hHeld => ?_); (focus (exact trivial)); clear hK K; (try simp only [PT]); (refine tk 7 (oi := ⟨some 82, _, _, _, _, _⟩) (v := ?_) rfl (by kernel_rfl) (.inl ⟨by rfl, ?_⟩) hHeld ?_; rotate_left; focus (intro w hSw; (try dsimp only at hSw); go_simp; try with_reducible rfl)); simp only [PT]; (refine tk 8 (oi := ⟨some 90, _, _, _, _, _⟩) (v := ?_) rfl (by kernel_rfl) (.inl ⟨by rfl, ?_⟩) hHeld ?_; rotate_left; focus (intro w hSw; (try dsimp only at hSw); go_simp; try with_reducible rfl)); simp only [PT]; (refine tk 9 (oi := ⟨some 91, _, _, _, _, _⟩) (v := ?_) rfl (by kernel_rfl) (.inl ⟨by rfl, ?_⟩) hHeld ?_; rotate_left; focus (intro w hSw; (try dsimp only at hSw); go_simp; try with_reducible rfl)); simp only [PT]; (refine tk 10 (oi := ⟨some 92, _, _, _, _, _⟩) (v := ?_) rfl (by kernel_rfl) (.inl ⟨by rfl, ?_⟩) hHeld ?_; rotate_left; focus (intro w hSw; (try dsimp only at hSw); go_simp; try with_reducible rfl)); simp only [PT]; refine wpAnyH_ready (rs := [12]) (by kernel_rfl) (by simp) ?_; refine (AllReadyH.cons (o := ⟨none, _, _, _, _, _⟩) rfl (fun K hK => ?_) AllReadyH.nil); ((refine z0j rfl 27 (.tmp 12) (.tmp 90) rfl g12 v.cells.toArray rfl rfl HG12.out HBI.out rfl (z0h v) ?_); intro w13 hs__ hr__; replace HB := cg HB bup hr__ (by omega); replace HG4 := cg HG4 bup hr__ (by omega); replace HG7 := cg HG7 bup hr__ (by omega); clear HG12; have HG12 := Hd hs__; clear hs__ hr__); refine hK.out _ _ ?_ (fun hHeld => ?_); (focus (exact trivial)); clear hK K; (try simp only [PT]); (refine tk 13 (oi := ⟨some 13, _, _, _, _, _⟩) (v := ?_) rfl (by kernel_rfl) (.inl ⟨by rfl, ?_⟩) hHeld ?_; rotate_left; focus (intro w hSw; (try dsimp only at hSw); go_simp; try with_reducible rfl)); simp only [PT]; (refine tk 14 (oi := ⟨some 14, _, _, _, _, _⟩) (v := ?_) rfl (by kernel_rfl) (.inl ⟨by rfl, ?_⟩) hHeld ?_; rotate_left; focus (intro w hSw; (try dsimp only at hSw); go_simp; try with_reducible rfl)); simp only [PT]; refine wpAnyH_done (by kernel_rfl) ?_ _; rotate_left; ((refine z2t rfl 27 rfl (.agg #[.int .i64 0, .bool false, .int .u32 0, .int .i64 0, .int .u32 0, .int .i64 0, .int .u64 0, .int .u32 0, .slice none 0 0, .slice none 0 0, .slice none 0 0]) #[.int .i64 0, .bool false, .int .u32 0, .int .i64 0, .int .u32 0, .int .i64 0, .int .u64 0, .int .u32 0, .slice none 0 0, .slice none 0 0, .slice none 0 0] 11 (by kernel_rfl) rfl ?_); intro w12 g12 le_g12 lt_g12 hg__ hb__; have l412 : g4 < g12 := Nat.lt_of_lt_of_le (lt_of_block (by exact HG4.out)) le_g12; have l712 : g7 < g12 := Nat.lt_of_lt_of_le (lt_of_block (by exact HG7.out)) le_g12; have HG12 := Hd hg__; (first | (have HAP := Hd (OwnBlk.apart_lt HX.out le_g12); have hE__ := cU HB bup hb__; replace HB := ck HB hE__; replace HG4 := ck HG4 hE__; replace HG7 := ck HG7 hE__; replace HG11 := ck HG11 hE__; replace HX := ck HX hE__; clear hE__) | (have hE__ := cU HB bup hb__; replace HB := ck HB hE__; replace HG4 := ck HG4 hE__; replace HG7 := ck HG7 hE__; replace HG11 := ck HG11 hE__; clear hE__)); clear hg__ hb__); refine hK.out _ _ ?_ (fun hHeld => ?_); (focus (exact trivial)); clear hK K; (try simp only [PT]); refine wpAnyH_ready (rs := [0]) (by kernel_rfl) (by simp) ?_
          refine (AllReadyH.cons (o := ⟨some 83, _, _, _, _, _⟩) rfl (fun K hK => ?_) AllReadyH.nil); ((refine z1m rfl 27 (.tmp 11) rfl g11 0 rfl [.int .i64 KD, .bool false, .int .u32 ((TT : Nat) : Int), .int .i64 0, .int .u32 0, .int .i64 0, .int .u64 0, .int .u32 0, .slice none 0 0, .slice none 0 0, .slice none 0 0] _ (by exact z00 HG11.out) Try.underlying27 rfl HBI.out ?_)); refine hK.out _ _ ?_ (fun hHeld => ?_); (focus (exact trivial)); clear hK K; (try simp only [PT]); refine wpAnyH_ready (rs := [6]) (by kernel_rfl) (by simp) ?_; refine (AllReadyH.cons (o := ⟨some 89, _, _, _, _, _⟩) rfl (fun K hK => ?_) AllReadyH.nil); (focus (go_simp; have HAB : ∀ w0, Bs w0 ad n c l → Bs w0 (subAd ad c 8 1) (J - 8) (c - 8) D := fun w0 h0 => (by rw [← HD.out]; exact Bs.part h0 8 J hj8 (by omega)); (refine (HOPN.out _ (J - 8) (c - 8) _ (HAB _ (HS.out.below (HB.out.trans (Below.mono bup HB.out.size)))) (by omega)).mono ?_); intro e w11 hr; obtain ⟨v, rad, rn, rc, ok, rfl, hok, hgood, hb__⟩ := hr; have hok2 : ok = false := hok; subst hok2; (first | (have hE__ := cU HB bup hb__; replace HB := ck HB hE__; replace HG4 := ck HG4 hE__; replace HG7 := ck HG7 hE__; replace HG11 := ck HG11 hE__; replace HG12 := ck HG12 hE__; clear hE__) | (have hE__ := cU HB bup hb__; replace HB := ck HB hE__; replace HG4 := ck HG4 hE__; replace HG7 := ck HG7 hE__; replace HG11 := ck HG11 hE__; clear hE__)); clear hb__ hok hgood; go_wp2_with fail)); refine hK.out _ _ ?_ (fun hHeld => ?_); (focus (exact trivial)); clear hK K; (try simp only [PT]); (refine tk 7 (oi := ⟨some 82, _, _, _, _, _⟩) (v := ?_) rfl (by kernel_rfl) (.inl ⟨by rfl, ?_⟩) hHeld ?_; rotate_left; focus (intro w hSw; (try dsimp only at hSw); go_simp; try with_reducible rfl)); simp only [PT]; (refine tk 8 (oi := ⟨some 90, _, _, _, _, _⟩) (v := ?_) rfl (by kernel_rfl) (.inl ⟨by rfl, ?_⟩) hHeld ?_; rotate_left; focus (intro w hSw; (try dsimp only at hSw); go_simp; try with_reducible rfl)); simp only [PT]; (refine tk 9 (oi := ⟨some 91, _, _, _, _, _⟩) (v := ?_) rfl (by kernel_rfl) (.inl ⟨by rfl, ?_⟩) hHeld ?_; rotate_left; focus (intro w hSw; (try dsimp only at hSw); go_simp; try with_reducible rfl)); simp only [PT]; (refine tk 10 (oi := ⟨some 92, _, _, _, _, _⟩) (v := ?_) rfl (by kernel_rfl) (.inl ⟨by rfl, ?_⟩) hHeld ?_; rotate_left; focus (intro w hSw; (try dsimp only at hSw); go_simp; try with_reducible rfl)); simp only [PT]; refine wpAnyH_ready (rs := [12]) (by kernel_rfl) (by simp) ?_; refine (AllReadyH.cons (o := ⟨none, _, _, _, _, _⟩) rfl (fun K hK => ?_) AllReadyH.nil); ((refine z0j rfl 27 (.tmp 12) (.tmp 90) rfl g12 v.cells.toArray rfl rfl HG12.out HBI.out rfl (z0h v) ?_); intro w13 hs__ hr__; replace HB := cg HB bup hr__ (by omega); replace HG4 := cg HG4 bup hr__ (by omega); replace HG7 := cg HG7 bup hr__ (by omega); clear HG12; have HG12 := Hd hs__; clear hs__ hr__); refine hK.out _ _ ?_ (fun hHeld => ?_); (focus (exact trivial)); clear hK K; (try simp only [PT]); (refine tk 13 (oi := ⟨some 13, _, _, _, _, _⟩) (v := ?_) rfl (by kernel_rfl) (.inl ⟨by rfl, ?_⟩) hHeld ?_; rotate_left; focus (intro w hSw; (try dsimp only at hSw); go_simp; try with_reducible rfl)); simp only [PT]; (refine tk 14 (oi := ⟨some 14, _, _, _, _, _⟩) (v := ?_) rfl (by kernel_rfl) (.inl ⟨by rfl, ?_⟩) hHeld ?_; rotate_left; focus (intro w hSw; (try dsimp only at hSw); go_simp; try with_reducible rfl)); simp only [PT]; refine wpAnyH_done (by kernel_rfl) ?_ _; rotate_left
          all_goals
            go_wp2_with fail
            go_meet
            case rel => exact ⟨rfl, HG4.out, HG7.out, HB.out⟩
        case rest =>
          obtain ⟨rfl, hg4, hg7, hb4⟩ := hcut
          clear HB HG4 HG7 HG11
          have HB := Hd hb4
          have HG4 := Hd hg4
          have HG7 := Hd hg7
          clear hg4 hg7 hb4
          go_wp2_with (first
 | ((with_reducible refine sl 95 ?_); (refine z05 rfl 27 (.tmp 7) rfl g7 0 rfl [.int .i64 0, .bool false, .int .u32 0, .int .i64 0, .int .u32 0, .int .i64 0, .int .u64 0, .int .u32 0, .slice none 0 0, .slice none 0 0, .slice none 0 0] _ (z00 HG7.out) Try.underlying27 rfl HBI.out ?_); simp only [PT])
 | ((with_reducible show wpList _ _ _ (⟨none, .store _ (.tmp 4) (.tmp 95), _, _, _, _⟩ :: _) _ _); (refine z02 rfl 27 (.tmp 4) (.tmp 95) rfl g4 #[.int .i64 0, .bool false, .int .u32 0, .int .i64 0, .int .u32 0, .int .i64 0, .int .u64 0, .int .u32 0, .slice none 0 0, .slice none 0 0, .slice none 0 0] rfl rfl HG4.out HBI.out rfl (all1 _ rfl) ?_); intro w99 hs__ hr__; replace HB := cg HB bup hr__ (by omega); clear HG4; have HG4 := Hd hs__; clear hs__ hr__; simp only [PT]))
          (try simp only [Exit.inBlock, Exit.then, Exit.noGoto_ret])
          refine z04 (cs := [.int .i64 0, .bool false, .int .u32 0, .int .i64 0, .int .u32 0, .int .i64 0, .int .u64 0, .int .u32 0, .slice none 0 0, .slice none 0 0, .slice none 0 0]) rfl rfl (z00 HG4.out) Try.underlying27 rfl HBI.out rfl ?_
          exact ⟨noneV, by rw [HO.out]; rfl, by rw [HO.out]; rfl, ⟨z1i _ _ _ _, OwnOps.nil _ _ _, OwnOps.nil _ _ _⟩, HB.out⟩
      | some p =>
        obtain ⟨x, r⟩ := p
        go_upto_region 22 with fail
        go_cut [12, 13, 14] from 17 (fun s12 s13 s14 wx => ∃ (g12 : Nat) (v : BlkV) (rad : Option Addr) (rn rc : Nat), s12 = .pointer (some ⟨g12, 0, none⟩) ∧ s13 = .slice rad rn rc ∧ s14 = .bool true ∧ wx.heap[g12]? = some (.cells v.cells.toArray 27 (0, 0)) ∧ g4 < g12 ∧ g7 < g12 ∧ g4 < g11 ∧ v.val = x ∧ Bs w rad rn rc r ∧ rn ≤ 1000000000 ∧ OwnBlk (g11 + 1) wx v ∧ Apart g12 v ∧ w.heap.size ≤ g11 ∧ w.heap.size ≤ g12 ∧ wx.heap[g4]? = some (.cells #[.int .i64 0, .bool false, .int .u32 0, .int .i64 0, .int .u32 0, .int .i64 0, .int .u64 0, .int .u32 0, .slice none 0 0, .slice none 0 0, .slice none 0 0] 27 (0, 0)) ∧ wx.heap[g7]? = some (.cells #[.int .i64 0, .bool false, .int .u32 0, .int .i64 0, .int .u32 0, .int .i64 0, .int .u64 0, .int .u32 0, .slice none 0 0, .slice none 0 0, .slice none 0 0] 27 (0, 0)) ∧ Below w.heap.size w wx)
        case first =>
          refine wp_region_held_drew (S := fun u => True) (by kernel_rfl) ?_ (fun hHeld => ?_); (focus (exact trivial)); (refine tk 1 (oi := ⟨some 84, _, _, _, _, _⟩) (v := ?_) rfl (by kernel_rfl) (.inl ⟨by rfl, ?_⟩) hHeld ?_; rotate_left; focus (intro w hSw; (try dsimp only at hSw); go_simp; try with_reducible rfl)); simp only [PT]; (refine tk 2 (oi := ⟨some 85, _, _, _, _, _⟩) (v := ?_) rfl (by kernel_rfl) (.inl ⟨by rfl, ?_⟩) hHeld ?_; rotate_left; focus (intro w hSw; (try dsimp only at hSw); go_simp; try with_reducible rfl)); simp only [PT]; (refine' tk 3 (oi := ⟨some 86, _, _, _, _, _⟩) (v := (.int .i64 (J : Int))) rfl (by kernel_rfl) (.inl ⟨by rfl, ?_⟩) hHeld ?_; focus (intro w hSw; (try dsimp only at hSw); go_simp; first | done | rfl | (simp [*]; done) | (simp [*]; omega))); simp only [PT]; refine' tk 4 (oi := ⟨some 87, _, _, _, _, _⟩) (v := _) rfl (by kernel_rfl) (z14 elB rfl (.tmp 84) (some (.const (.int .i64 8))) (some (.tmp 86)) rfl rfl 8 J (.inr ⟨.i64, rfl⟩) (.inr ⟨.i64, rfl⟩) hj8 (by omega)) hHeld ?_; simp only [PT]; (refine tk 5 (oi := ⟨some 88, _, _, _, _, _⟩) (v := ?_) rfl (by kernel_rfl) (.inl ⟨by rfl, ?_⟩) hHeld ?_; rotate_left; focus (intro w hSw; (try dsimp only at hSw); go_simp; try with_reducible rfl)); simp only [PT]; refine wpAnyH_ready (rs := [0, 11]) (by kernel_rfl) (by simp) ?_; refine (AllReadyH.cons (o := ⟨some 83, _, _, _, _, _⟩) rfl (fun K hK => ?_) (AllReadyH.cons (o := ⟨some 12, _, _, _, _, _⟩) rfl (fun K hK => ?_) AllReadyH.nil)); ((refine z1m rfl 27 (.tmp 11) rfl g11 0 rfl [.int .i64 KD, .bool false, .int .u32 ((TT : Nat) : Int), .int .i64 0, .int .u32 0, .int .i64 0, .int .u64 0, .int .u32 0, .slice none 0 0, .slice none 0 0, .slice none 0 0] _ (by exact z00 HG11.out) Try.underlying27 rfl HBI.out ?_)); refine hK.out _ _ ?_ (fun hHeld => ?_); (focus (exact trivial)); clear hK K; (try simp only [PT]); refine wpAnyH_ready (rs := [6, 11]) (by kernel_rfl) (by simp) ?_; refine (AllReadyH.cons (o := ⟨some 89, _, _, _, _, _⟩) rfl (fun K hK => ?_) (AllReadyH.cons (o := ⟨some 12, _, _, _, _, _⟩) rfl (fun K hK => ?_) AllReadyH.nil)); (focus (go_simp; have HAB : ∀ w0, Bs w0 ad n c l → Bs w0 (subAd ad c 8 1) (J - 8) (c - 8) D := fun w0 h0 => (by rw [← HD.out]; exact Bs.part h0 8 J hj8 (by omega)); (refine (HOPN.out _ (J - 8) (c - 8) _ (HAB _ (HS.out.below (HB.out.trans (Below.mono bup HB.out.size)))) (by omega)).mono ?_); intro e w11 hr; obtain ⟨v, rad, rn, rc, ok, rfl, hok, hgood, hb__⟩ := hr; have hok2 : ok = true := hok; subst hok2; obtain ⟨hval, hrb, hown⟩ := hgood x r rfl; have HVAL := Hd hval; have HX := Hd (hown.base (base' := g11 + 1) (lt_of_block (by exact HG11.out))); have HRB := Hd (hrb _ (HAB _ HS.out)); have hrn : rn ≤ 1000000000 := (by have h1 := HORL.out x r rfl; have h2 := HRB.out.len; omega); (first | (have HAP := Hd (OwnBlk.apart_ge (hown.base (base' := g12 + 1) (lt_of_block (by exact HG12.out))) (Nat.lt_succ_self _)); have hE__ := cU HB bup hb__; replace HB := ck HB hE__; replace HG4 := ck HG4 hE__; replace HG7 := ck HG7 hE__; replace HG11 := ck HG11 hE__; replace HG12 := ck HG12 hE__; clear hE__) | (have hE__ := cU HB bup hb__; replace HB := ck HB hE__; replace HG4 := ck HG4 hE__; replace HG7 := ck HG7 hE__; replace HG11 := ck HG11 hE__; clear hE__)); clear hb__ hok hgood hval hrb hown; go_wp2_with fail)); refine hK.out _ _ ?_ (fun hHeld => ?_); (focus (exact trivial)); clear hK K; (try simp only [PT]); (refine tk 7 (oi := ⟨some 82, _, _, _, _, _⟩) (v := ?_) rfl (by kernel_rfl) (.inl ⟨by rfl, ?_⟩) hHeld ?_; rotate_left; focus (intro w hSw; (try dsimp only at hSw); go_simp; try with_reducible rfl)); simp only [PT]; (refine tk 8 (oi := ⟨some 90, _, _, _, _, _⟩) (v := ?_) rfl (by kernel_rfl) (.inl ⟨by rfl, ?_⟩) hHeld ?_; rotate_left; focus (intro w hSw; (try dsimp only at hSw); go_simp; try with_reducible rfl)); simp only [PT]
          (refine tk 9 (oi := ⟨some 91, _, _, _, _, _⟩) (v := ?_) rfl (by kernel_rfl) (.inl ⟨by rfl, ?_⟩) hHeld ?_; rotate_left; focus (intro w hSw; (try dsimp only at hSw); go_simp; try with_reducible rfl)); simp only [PT]; (refine tk 10 (oi := ⟨some 92, _, _, _, _, _⟩) (v := ?_) rfl (by kernel_rfl) (.inl ⟨by rfl, ?_⟩) hHeld ?_; rotate_left; focus (intro w hSw; (try dsimp only at hSw); go_simp; try with_reducible rfl)); simp only [PT]; refine wpAnyH_ready (rs := [11]) (by kernel_rfl) (by simp) ?_; refine (AllReadyH.cons (o := ⟨some 12, _, _, _, _, _⟩) rfl (fun K hK => ?_) AllReadyH.nil); ((refine z2t rfl 27 rfl (.agg #[.int .i64 0, .bool false, .int .u32 0, .int .i64 0, .int .u32 0, .int .i64 0, .int .u64 0, .int .u32 0, .slice none 0 0, .slice none 0 0, .slice none 0 0]) #[.int .i64 0, .bool false, .int .u32 0, .int .i64 0, .int .u32 0, .int .i64 0, .int .u64 0, .int .u32 0, .slice none 0 0, .slice none 0 0, .slice none 0 0] 11 (by kernel_rfl) rfl ?_); intro w12 g12 le_g12 lt_g12 hg__ hb__; have l412 : g4 < g12 := Nat.lt_of_lt_of_le (lt_of_block (by exact HG4.out)) le_g12; have l712 : g7 < g12 := Nat.lt_of_lt_of_le (lt_of_block (by exact HG7.out)) le_g12; have HG12 := Hd hg__; (first | (have HAP := Hd (OwnBlk.apart_lt HX.out le_g12); have hE__ := cU HB bup hb__; replace HB := ck HB hE__; replace HG4 := ck HG4 hE__; replace HG7 := ck HG7 hE__; replace HG11 := ck HG11 hE__; replace HX := ck HX hE__; clear hE__) | (have hE__ := cU HB bup hb__; replace HB := ck HB hE__; replace HG4 := ck HG4 hE__; replace HG7 := ck HG7 hE__; replace HG11 := ck HG11 hE__; clear hE__)); clear hg__ hb__); refine hK.out _ _ ?_ (fun hHeld => ?_); (focus (exact trivial)); clear hK K; (try simp only [PT]); refine wpAnyH_ready (rs := [12]) (by kernel_rfl) (by simp) ?_; refine (AllReadyH.cons (o := ⟨none, _, _, _, _, _⟩) rfl (fun K hK => ?_) AllReadyH.nil); ((refine z0j rfl 27 (.tmp 12) (.tmp 90) rfl g12 v.cells.toArray rfl rfl HG12.out HBI.out rfl (z0h v) ?_); intro w13 hs__ hr__; replace HB := cg HB bup hr__ (by omega); replace HG4 := cg HG4 bup hr__ (by omega); replace HG7 := cg HG7 bup hr__ (by omega); replace HX := cXn HX HAP.out bup hr__; clear HG12; have HG12 := Hd hs__; clear hs__ hr__); refine hK.out _ _ ?_ (fun hHeld => ?_); (focus (exact trivial)); clear hK K; (try simp only [PT]); (refine tk 13 (oi := ⟨some 13, _, _, _, _, _⟩) (v := ?_) rfl (by kernel_rfl) (.inl ⟨by rfl, ?_⟩) hHeld ?_; rotate_left; focus (intro w hSw; (try dsimp only at hSw); go_simp; try with_reducible rfl)); simp only [PT]; (refine tk 14 (oi := ⟨some 14, _, _, _, _, _⟩) (v := ?_) rfl (by kernel_rfl) (.inl ⟨by rfl, ?_⟩) hHeld ?_; rotate_left; focus (intro w hSw; (try dsimp only at hSw); go_simp; try with_reducible rfl)); simp only [PT]; refine wpAnyH_done (by kernel_rfl) ?_ _; rotate_left; ((refine z2t rfl 27 rfl (.agg #[.int .i64 0, .bool false, .int .u32 0, .int .i64 0, .int .u32 0, .int .i64 0, .int .u64 0, .int .u32 0, .slice none 0 0, .slice none 0 0, .slice none 0 0]) #[.int .i64 0, .bool false, .int .u32 0, .int .i64 0, .int .u32 0, .int .i64 0, .int .u64 0, .int .u32 0, .slice none 0 0, .slice none 0 0, .slice none 0 0] 11 (by kernel_rfl) rfl ?_); intro w12 g12 le_g12 lt_g12 hg__ hb__; have l412 : g4 < g12 := Nat.lt_of_lt_of_le (lt_of_block (by exact HG4.out)) le_g12; have l712 : g7 < g12 := Nat.lt_of_lt_of_le (lt_of_block (by exact HG7.out)) le_g12; have HG12 := Hd hg__; (first | (have HAP := Hd (OwnBlk.apart_lt HX.out le_g12); have hE__ := cU HB bup hb__; replace HB := ck HB hE__; replace HG4 := ck HG4 hE__; replace HG7 := ck HG7 hE__; replace HG11 := ck HG11 hE__; replace HX := ck HX hE__; clear hE__) | (have hE__ := cU HB bup hb__; replace HB := ck HB hE__; replace HG4 := ck HG4 hE__; replace HG7 := ck HG7 hE__; replace HG11 := ck HG11 hE__; clear hE__)); clear hg__ hb__); refine hK.out _ _ ?_ (fun hHeld => ?_); (focus (exact trivial)); clear hK K; (try simp only [PT]); refine wpAnyH_ready (rs := [6]) (by kernel_rfl) (by simp) ?_
          refine (AllReadyH.cons (o := ⟨some 89, _, _, _, _, _⟩) rfl (fun K hK => ?_) AllReadyH.nil); (focus (go_simp; have HAB : ∀ w0, Bs w0 ad n c l → Bs w0 (subAd ad c 8 1) (J - 8) (c - 8) D := fun w0 h0 => (by rw [← HD.out]; exact Bs.part h0 8 J hj8 (by omega)); (refine (HOPN.out _ (J - 8) (c - 8) _ (HAB _ (HS.out.below (HB.out.trans (Below.mono bup HB.out.size)))) (by omega)).mono ?_); intro e w11 hr; obtain ⟨v, rad, rn, rc, ok, rfl, hok, hgood, hb__⟩ := hr; have hok2 : ok = true := hok; subst hok2; obtain ⟨hval, hrb, hown⟩ := hgood x r rfl; have HVAL := Hd hval; have HX := Hd (hown.base (base' := g11 + 1) (lt_of_block (by exact HG11.out))); have HRB := Hd (hrb _ (HAB _ HS.out)); have hrn : rn ≤ 1000000000 := (by have h1 := HORL.out x r rfl; have h2 := HRB.out.len; omega); (first | (have HAP := Hd (OwnBlk.apart_ge (hown.base (base' := g12 + 1) (lt_of_block (by exact HG12.out))) (Nat.lt_succ_self _)); have hE__ := cU HB bup hb__; replace HB := ck HB hE__; replace HG4 := ck HG4 hE__; replace HG7 := ck HG7 hE__; replace HG11 := ck HG11 hE__; replace HG12 := ck HG12 hE__; clear hE__) | (have hE__ := cU HB bup hb__; replace HB := ck HB hE__; replace HG4 := ck HG4 hE__; replace HG7 := ck HG7 hE__; replace HG11 := ck HG11 hE__; clear hE__)); clear hb__ hok hgood hval hrb hown; go_wp2_with fail)); refine hK.out _ _ ?_ (fun hHeld => ?_); (focus (exact trivial)); clear hK K; (try simp only [PT]); (refine tk 7 (oi := ⟨some 82, _, _, _, _, _⟩) (v := ?_) rfl (by kernel_rfl) (.inl ⟨by rfl, ?_⟩) hHeld ?_; rotate_left; focus (intro w hSw; (try dsimp only at hSw); go_simp; try with_reducible rfl)); simp only [PT]; (refine tk 8 (oi := ⟨some 90, _, _, _, _, _⟩) (v := ?_) rfl (by kernel_rfl) (.inl ⟨by rfl, ?_⟩) hHeld ?_; rotate_left; focus (intro w hSw; (try dsimp only at hSw); go_simp; try with_reducible rfl)); simp only [PT]; (refine tk 9 (oi := ⟨some 91, _, _, _, _, _⟩) (v := ?_) rfl (by kernel_rfl) (.inl ⟨by rfl, ?_⟩) hHeld ?_; rotate_left; focus (intro w hSw; (try dsimp only at hSw); go_simp; try with_reducible rfl)); simp only [PT]; (refine tk 10 (oi := ⟨some 92, _, _, _, _, _⟩) (v := ?_) rfl (by kernel_rfl) (.inl ⟨by rfl, ?_⟩) hHeld ?_; rotate_left; focus (intro w hSw; (try dsimp only at hSw); go_simp; try with_reducible rfl)); simp only [PT]; refine wpAnyH_ready (rs := [12]) (by kernel_rfl) (by simp) ?_; refine (AllReadyH.cons (o := ⟨none, _, _, _, _, _⟩) rfl (fun K hK => ?_) AllReadyH.nil); ((refine z0j rfl 27 (.tmp 12) (.tmp 90) rfl g12 v.cells.toArray rfl rfl HG12.out HBI.out rfl (z0h v) ?_); intro w13 hs__ hr__; replace HB := cg HB bup hr__ (by omega); replace HG4 := cg HG4 bup hr__ (by omega); replace HG7 := cg HG7 bup hr__ (by omega); replace HX := cXn HX HAP.out bup hr__; clear HG12; have HG12 := Hd hs__; clear hs__ hr__); refine hK.out _ _ ?_ (fun hHeld => ?_); (focus (exact trivial)); clear hK K; (try simp only [PT]); (refine tk 13 (oi := ⟨some 13, _, _, _, _, _⟩) (v := ?_) rfl (by kernel_rfl) (.inl ⟨by rfl, ?_⟩) hHeld ?_; rotate_left; focus (intro w hSw; (try dsimp only at hSw); go_simp; try with_reducible rfl)); simp only [PT]; (refine tk 14 (oi := ⟨some 14, _, _, _, _, _⟩) (v := ?_) rfl (by kernel_rfl) (.inl ⟨by rfl, ?_⟩) hHeld ?_; rotate_left; focus (intro w hSw; (try dsimp only at hSw); go_simp; try with_reducible rfl)); simp only [PT]; refine wpAnyH_done (by kernel_rfl) ?_ _; rotate_left
          ((refine z2t rfl 27 rfl (.agg #[.int .i64 0, .bool false, .int .u32 0, .int .i64 0, .int .u32 0, .int .i64 0, .int .u64 0, .int .u32 0, .slice none 0 0, .slice none 0 0, .slice none 0 0]) #[.int .i64 0, .bool false, .int .u32 0, .int .i64 0, .int .u32 0, .int .i64 0, .int .u64 0, .int .u32 0, .slice none 0 0, .slice none 0 0, .slice none 0 0] 11 (by kernel_rfl) rfl ?_); intro w12 g12 le_g12 lt_g12 hg__ hb__; have l412 : g4 < g12 := Nat.lt_of_lt_of_le (lt_of_block (by exact HG4.out)) le_g12; have l712 : g7 < g12 := Nat.lt_of_lt_of_le (lt_of_block (by exact HG7.out)) le_g12; have HG12 := Hd hg__; (first | (have HAP := Hd (OwnBlk.apart_lt HX.out le_g12); have hE__ := cU HB bup hb__; replace HB := ck HB hE__; replace HG4 := ck HG4 hE__; replace HG7 := ck HG7 hE__; replace HG11 := ck HG11 hE__; replace HX := ck HX hE__; clear hE__) | (have hE__ := cU HB bup hb__; replace HB := ck HB hE__; replace HG4 := ck HG4 hE__; replace HG7 := ck HG7 hE__; replace HG11 := ck HG11 hE__; clear hE__)); clear hg__ hb__); refine hK.out _ _ ?_ (fun hHeld => ?_); (focus (exact trivial)); clear hK K; (try simp only [PT]); refine wpAnyH_ready (rs := [0]) (by kernel_rfl) (by simp) ?_; refine (AllReadyH.cons (o := ⟨some 83, _, _, _, _, _⟩) rfl (fun K hK => ?_) AllReadyH.nil); ((refine z1m rfl 27 (.tmp 11) rfl g11 0 rfl [.int .i64 KD, .bool false, .int .u32 ((TT : Nat) : Int), .int .i64 0, .int .u32 0, .int .i64 0, .int .u64 0, .int .u32 0, .slice none 0 0, .slice none 0 0, .slice none 0 0] _ (by exact z00 HG11.out) Try.underlying27 rfl HBI.out ?_)); refine hK.out _ _ ?_ (fun hHeld => ?_); (focus (exact trivial)); clear hK K; (try simp only [PT]); refine wpAnyH_ready (rs := [6]) (by kernel_rfl) (by simp) ?_; refine (AllReadyH.cons (o := ⟨some 89, _, _, _, _, _⟩) rfl (fun K hK => ?_) AllReadyH.nil); (focus (go_simp; have HAB : ∀ w0, Bs w0 ad n c l → Bs w0 (subAd ad c 8 1) (J - 8) (c - 8) D := fun w0 h0 => (by rw [← HD.out]; exact Bs.part h0 8 J hj8 (by omega)); (refine (HOPN.out _ (J - 8) (c - 8) _ (HAB _ (HS.out.below (HB.out.trans (Below.mono bup HB.out.size)))) (by omega)).mono ?_); intro e w11 hr; obtain ⟨v, rad, rn, rc, ok, rfl, hok, hgood, hb__⟩ := hr; have hok2 : ok = true := hok; subst hok2; obtain ⟨hval, hrb, hown⟩ := hgood x r rfl; have HVAL := Hd hval; have HX := Hd (hown.base (base' := g11 + 1) (lt_of_block (by exact HG11.out))); have HRB := Hd (hrb _ (HAB _ HS.out)); have hrn : rn ≤ 1000000000 := (by have h1 := HORL.out x r rfl; have h2 := HRB.out.len; omega); (first | (have HAP := Hd (OwnBlk.apart_ge (hown.base (base' := g12 + 1) (lt_of_block (by exact HG12.out))) (Nat.lt_succ_self _)); have hE__ := cU HB bup hb__; replace HB := ck HB hE__; replace HG4 := ck HG4 hE__; replace HG7 := ck HG7 hE__; replace HG11 := ck HG11 hE__; replace HG12 := ck HG12 hE__; clear hE__) | (have hE__ := cU HB bup hb__; replace HB := ck HB hE__; replace HG4 := ck HG4 hE__; replace HG7 := ck HG7 hE__; replace HG11 := ck HG11 hE__; clear hE__)); clear hb__ hok hgood hval hrb hown; go_wp2_with fail)); refine hK.out _ _ ?_ (fun hHeld => ?_); (focus (exact trivial)); clear hK K; (try simp only [PT]); (refine tk 7 (oi := ⟨some 82, _, _, _, _, _⟩) (v := ?_) rfl (by kernel_rfl) (.inl ⟨by rfl, ?_⟩) hHeld ?_; rotate_left; focus (intro w hSw; (try dsimp only at hSw); go_simp; try with_reducible rfl)); simp only [PT]; (refine tk 8 (oi := ⟨some 90, _, _, _, _, _⟩) (v := ?_) rfl (by kernel_rfl) (.inl ⟨by rfl, ?_⟩) hHeld ?_; rotate_left; focus (intro w hSw; (try dsimp only at hSw); go_simp; try with_reducible rfl)); simp only [PT]; (refine tk 9 (oi := ⟨some 91, _, _, _, _, _⟩) (v := ?_) rfl (by kernel_rfl) (.inl ⟨by rfl, ?_⟩) hHeld ?_; rotate_left; focus (intro w hSw; (try dsimp only at hSw); go_simp; try with_reducible rfl)); simp only [PT]; (refine tk 10 (oi := ⟨some 92, _, _, _, _, _⟩) (v := ?_) rfl (by kernel_rfl) (.inl ⟨by rfl, ?_⟩) hHeld ?_; rotate_left; focus (intro w hSw; (try dsimp only at hSw); go_simp; try with_reducible rfl)); simp only [PT]
          refine wpAnyH_ready (rs := [12]) (by kernel_rfl) (by simp) ?_; refine (AllReadyH.cons (o := ⟨none, _, _, _, _, _⟩) rfl (fun K hK => ?_) AllReadyH.nil); ((refine z0j rfl 27 (.tmp 12) (.tmp 90) rfl g12 v.cells.toArray rfl rfl HG12.out HBI.out rfl (z0h v) ?_); intro w13 hs__ hr__; replace HB := cg HB bup hr__ (by omega); replace HG4 := cg HG4 bup hr__ (by omega); replace HG7 := cg HG7 bup hr__ (by omega); replace HX := cXn HX HAP.out bup hr__; clear HG12; have HG12 := Hd hs__; clear hs__ hr__); refine hK.out _ _ ?_ (fun hHeld => ?_); (focus (exact trivial)); clear hK K; (try simp only [PT]); (refine tk 13 (oi := ⟨some 13, _, _, _, _, _⟩) (v := ?_) rfl (by kernel_rfl) (.inl ⟨by rfl, ?_⟩) hHeld ?_; rotate_left; focus (intro w hSw; (try dsimp only at hSw); go_simp; try with_reducible rfl)); simp only [PT]; (refine tk 14 (oi := ⟨some 14, _, _, _, _, _⟩) (v := ?_) rfl (by kernel_rfl) (.inl ⟨by rfl, ?_⟩) hHeld ?_; rotate_left; focus (intro w hSw; (try dsimp only at hSw); go_simp; try with_reducible rfl)); simp only [PT]; refine wpAnyH_done (by kernel_rfl) ?_ _; rotate_left
          all_goals
            go_wp2_with fail
            go_meet
            case rel => exact ⟨_, v, rad, rn, rc, rfl, rfl, rfl, HG12.out, l412, l712, h411, HVAL.out, HRB.out, hrn, HX.out, HAP.out, by omega, by omega, HG4.out, HG7.out, HB.out⟩
        case rest =>
          obtain ⟨g12, v, rad, rn, rc, rfl, rfl, rfl, hg12, l412, l712, h411', hval, hrb, hrn, hx, hap, lw11, lw12, hg4, hg7, hb4⟩ := hcut
          have HG12 := Hd hg12
          have HVAL := Hd hval
          have HRB := Hd hrb
          have HX := Hd hx
          have HAP := Hd hap
          clear hg12 hval hrb hx hap
          clear HB HG4 HG7 HG11
          have HB := Hd hb4
          have HG4 := Hd hg4
          have HG7 := Hd hg7
          clear hg4 hg7 hb4
          obtain ⟨X, hX⟩ : ∃ X, X = readO G r := ⟨_, rfl⟩
          obtain ⟨X1, s1, s2⟩ := X
          have HXX := Hd hX.symm
          have HQ2 : Hid (getP big l = if (s1, s2) = ((0, 0) : Nat × Int) then ({ x with opts := X1 }, N4, 0) else (noneB, 0, 3)) := Hd (by rw [HQ.out]; unfold endP; simp only [← hX])
          have HX3 : Hid ((s1, s2) = ((0, 0) : Nat × Int) ∨ s2 ≠ 0) := Hd (by
            have e : (readO G r).2 = (s1, s2) := congrArg (fun p => p.2) hX.symm
            have h := readO_spot G r
            rw [e] at h
            exact h)
          clear hX HN
          by_cases hz : (s1, s2) = ((0, 0) : Nat × Int)
          rotate_left
          · have HO : Hid (getP big l = (noneB, 0, 3)) := Hd (by rw [HQ2.out, if_neg hz])
            have hz2 : ¬ s2 = 0 := HX3.out.resolve_left hz
            have hz3 : (s2 != 0) = true := by simp [hz2]
            clear hz HQ HQ2 HX3
            go_wp2_with (first
 | (go_at_call 63; (refine (refRead_any rad rn rc r G _ (HRB.out.below (HB.out.trans (Below.mono bup HB.out.size))) (by omega)).mono ?_); intro e w14 hr; rw [HXX.out] at hr; dsimp only at hr; obtain ⟨ad5, n5, c5, os, rfl, how, hvs, hb__⟩ := hr; have HW := Hd (how.base (base' := g12 + 1) (lt_of_block (by exact HG12.out))); have HVS := Hd hvs; have hE__ := cU HB bup hb__; replace HB := ck HB hE__; replace HG4 := ck HG4 hE__; replace HG7 := ck HG7 hE__; replace HG12 := ck HG12 hE__; replace HX := ck HX hE__; clear hE__; clear hb__ how hvs)
 | ((with_reducible refine sl 16 ?_); (refine z09 rfl 49 rfl (.agg #[.int .i64 0, .int .i64 0]) #[.int .i64 0, .int .i64 0] 2 (by kernel_rfl) rfl ?_); intro w15 g16 he__ le_g16 lt_g16 hg__ hb__; have HG16 := Hd hg__; have le16 : w14.heap.size ≤ g16 := le_g16; have HBA := Hd (show Below w14.heap.size w14 w15 from Below.trans bup hb__); have sz5 := lt_of_block HG12.out; have hE__ := cU HB bup hb__; replace HB := ck HB hE__; replace HG4 := ck HG4 hE__; replace HG7 := ck HG7 hE__; replace HG12 := ck HG12 hE__; clear hE__; clear hg__ hb__ he__; simp only [PT])
 | ((with_reducible show wpList _ _ _ (⟨none, .store _ (.tmp 16) (.tmp 101), _, _, _, _⟩ :: _) _ _); (refine z02 rfl 49 (.tmp 16) (.tmp 101) rfl g16 (spotC (s1, s2)).toArray rfl rfl HG16.out HI.out rfl (all1 (spotC (s1, s2)) rfl) ?_); intro w16 hs__ hr__; replace HB := cg HB bup hr__ (by omega); replace HG4 := cg HG4 bup hr__ (by omega); replace HG7 := cg HG7 bup hr__ (by omega); replace HG12 := cg HG12 bup hr__ (by omega); replace HBA := cg HBA bup hr__ (by omega); replace HW := cW1 HW HBA.out; replace HX := cX1 HX HBA.out; clear HG16; have HG16 := Hd hs__; clear hs__ hr__; simp only [PT])
 | ((with_reducible refine sl 103 ?_); (refine z01 rfl 31 (.tmp 102) rfl g16 1 rfl (.int .i64 s2) HG16.out rfl Try.underlying31 rfl ?_); simp only [PT])
 | ((with_reducible refine sl 105 ?_); (refine z05 rfl 27 (.tmp 7) rfl g7 0 rfl [.int .i64 0, .bool false, .int .u32 0, .int .i64 0, .int .u32 0, .int .i64 0, .int .u64 0, .int .u32 0, .slice none 0 0, .slice none 0 0, .slice none 0 0] _ (z00 HG7.out) Try.underlying27 rfl HBI.out ?_); simp only [PT])
 | ((with_reducible show wpList _ _ _ (⟨none, .store _ (.tmp 4) (.tmp 105), _, _, _, _⟩ :: _) _ _); (refine z02 rfl 27 (.tmp 4) (.tmp 105) rfl g4 #[.int .i64 0, .bool false, .int .u32 0, .int .i64 0, .int .u32 0, .int .i64 0, .int .u64 0, .int .u32 0, .slice none 0 0, .slice none 0 0, .slice none 0 0] rfl rfl HG4.out HBI.out rfl (all1 _ rfl) ?_); intro w99 hs__ hr__; replace HB := cg HB bup hr__ (by omega); clear HG4; have HG4 := Hd hs__; clear hs__ hr__; simp only [PT]))
            (try simp only [Exit.inBlock, Exit.then, Exit.noGoto_ret])
            refine z04 (cs := [.int .i64 0, .bool false, .int .u32 0, .int .i64 0, .int .u32 0, .int .i64 0, .int .u64 0, .int .u32 0, .slice none 0 0, .slice none 0 0, .slice none 0 0]) rfl rfl (z00 HG4.out) Try.underlying27 rfl HBI.out rfl ?_
            exact ⟨noneV, by rw [HO.out]; rfl, by rw [HO.out]; rfl, ⟨z1i _ _ _ _, OwnOps.nil _ _ _, OwnOps.nil _ _ _⟩, HB.out⟩
          · have HO : Hid (getP big l = ({ x with opts := X1 }, N4, 0)) := Hd (by rw [HQ2.out, if_pos hz])
            clear HQ HQ2 HX3
            have hz1 : s1 = 0 := congrArg Prod.fst hz
            have hz2 : s2 = 0 := congrArg Prod.snd hz
            clear hz
            subst hz1
            subst hz2
            go_wp2_with (first
 | (go_at_call 63; (refine (refRead_any rad rn rc r G _ (HRB.out.below (HB.out.trans (Below.mono bup HB.out.size))) (by omega)).mono ?_); intro e w14 hr; rw [HXX.out] at hr; dsimp only at hr; obtain ⟨ad5, n5, c5, os, rfl, how, hvs, hb__⟩ := hr; have HW := Hd (how.base (base' := g12 + 1) (lt_of_block (by exact HG12.out))); have HVS := Hd hvs; have hE__ := cU HB bup hb__; replace HB := ck HB hE__; replace HG4 := ck HG4 hE__; replace HG7 := ck HG7 hE__; replace HG12 := ck HG12 hE__; replace HX := ck HX hE__; clear hE__; clear hb__ how hvs)
 | ((with_reducible refine sl 16 ?_); (refine z09 rfl 49 rfl (.agg #[.int .i64 0, .int .i64 0]) #[.int .i64 0, .int .i64 0] 2 (by kernel_rfl) rfl ?_); intro w15 g16 he__ le_g16 lt_g16 hg__ hb__; have HG16 := Hd hg__; have le16 : w14.heap.size ≤ g16 := le_g16; have HBA := Hd (show Below w14.heap.size w14 w15 from Below.trans bup hb__); have sz5 := lt_of_block HG12.out; have hE__ := cU HB bup hb__; replace HB := ck HB hE__; replace HG4 := ck HG4 hE__; replace HG7 := ck HG7 hE__; replace HG12 := ck HG12 hE__; clear hE__; clear hg__ hb__ he__; simp only [PT])
 | ((with_reducible show wpList _ _ _ (⟨none, .store _ (.tmp 16) (.tmp 101), _, _, _, _⟩ :: _) _ _); (refine z02 rfl 49 (.tmp 16) (.tmp 101) rfl g16 (spotC (0, 0)).toArray rfl rfl HG16.out HI.out rfl (all1 (spotC (0, 0)) rfl) ?_); intro w16 hs__ hr__; replace HB := cg HB bup hr__ (by omega); replace HG4 := cg HG4 bup hr__ (by omega); replace HG7 := cg HG7 bup hr__ (by omega); replace HG12 := cg HG12 bup hr__ (by omega); replace HBA := cg HBA bup hr__ (by omega); replace HW := cW1 HW HBA.out; replace HX := cX1 HX HBA.out; clear HG16; have HG16 := Hd hs__; clear hs__ hr__; simp only [PT])
 | ((with_reducible refine sl 103 ?_); (refine z01 rfl 31 (.tmp 102) rfl g16 1 rfl (.int .i64 0) HG16.out rfl Try.underlying31 rfl ?_); simp only [PT])
 | ((with_reducible show wpList _ _ _ (⟨none, .store _ (.tmp 107) (.tmp 106), _, _, _, _⟩ :: _) _ _); (refine z0c rfl 25 (.tmp 107) (.tmp 106) rfl g12 10 (.slice ad5 n5 c5) rfl rfl rfl HG12.out (show (10 : Nat) < 11 by decide) (by kernel_rfl) ({ v with oad := ad5, on := n5, oc := c5, os := os } : BlkV).cells.toArray rfl ?_); intro w17 hs__ hr__; replace HB := cg HB bup hr__ (by omega); replace HG4 := cg HG4 bup hr__ (by omega); replace HX := cXn HX HAP.out bup hr__; replace HW := cg HW bup hr__ (by omega); clear HG12; have HG12 := Hd hs__; clear hs__ hr__; simp only [PT])
 | ((with_reducible refine sl 108 ?_); (refine z05 rfl 27 (.tmp 12) rfl g12 0 rfl ({ v with oad := ad5, on := n5, oc := c5, os := os } : BlkV).cells _ (z00 HG12.out) Try.underlying27 rfl HBI.out ?_); simp only [PT])
 | ((with_reducible show wpList _ _ _ (⟨none, .store _ (.tmp 4) (.tmp 108), _, _, _, _⟩ :: _) _ _); (refine z02 rfl 27 (.tmp 4) (.tmp 108) rfl g4 ({ v with oad := ad5, on := n5, oc := c5, os := os } : BlkV).cells.toArray rfl rfl HG4.out HBI.out rfl (z0h _) ?_); intro w18 hs__ hr__; replace HB := cg HB bup hr__ (by omega); replace HX := cg HX bup hr__ (by omega); replace HW := cg HW bup hr__ (by omega); clear HG4; have HG4 := Hd hs__; clear hs__ hr__; simp only [PT]))
            (try simp only [Exit.inBlock, Exit.then, Exit.noGoto_ret])
            refine z04 (cs := ({ v with oad := ad5, on := n5, oc := c5, os := os } : BlkV).cells) rfl rfl (z00 HG4.out) Try.underlying27 rfl HBI.out rfl ?_
            refine ⟨{ v with oad := ad5, on := n5, oc := c5, os := os }, by rw [HO.out]; rfl, ?_, ⟨z0r HX.out.1 (by omega), HX.out.2.1.base (by omega), HW.out.base (by omega)⟩, HB.out⟩
            rw [HO.out, ← HVS.out, ← HVAL.out]
            rfl
theorem refGetB_any (ad : Option Addr) (n c : Nat) (l : List UInt8) (big : Bool) (w : World) (hs : Bs w ad n c l) (hn : n ≤ 1000000000) :
    Calls Try.prog 27 #[.slice ad n c, .bool big] w (GetR (getP big l) w) := by
  by_cases h : n < 12
  · exact refGet_short ad n c l big w hs hn h
  · exact refGet_long ad n c l big w hs hn (by omega)
theorem refGetB_at (X : PB) (N : Nat) (E : Int) (ad : Option Addr) (n c : Nat) (l : List UInt8) (big : Bool) (hX : getP big l = (X, N, E)) (w : World) (hs : Bs w ad n c l) (hn : n ≤ 1000000000) :
    Calls Try.prog 27 #[.slice ad n c, .bool big] w fun e w' => ∃ v, e = .returned (.tuple #[.agg v.cells.toArray, .int .i64 (N : Int), .int .i64 E]) ∧ v.val = X ∧ OwnBlk w.heap.size w' v ∧ Below w.heap.size w w' := by
  have := refGetB_any ad n c l big w hs hn
  rw [hX] at this
  exact this
end Go.Proofs.Ytmfplinbbcoahaa
namespace Go.Proofs.Ytmfplinbbcoahaa
open Go.RowKit Go.Sort Go.Shelf
def ReadQ (p : List PB × (Nat × Int)) (w : World) (e : Ending) (w' : World) : Prop :=
  ∃ ad c vs, e = .returned (.tuple #[.slice ad vs.length c, .agg #[.int .i64 ((p.2.1 : Nat) : Int), .int .i64 p.2.2]]) ∧ bvals vs = p.1 ∧ Blks w' ad vs.length c vs ∧ Below w.heap.size w w'
theorem OwnBlks.blksN {base : Nat} {w : World} {ad : Option Addr} {c m : Nat} {vs : List BlkV} (h : OwnBlks base w ad c vs) (hm : vs.length = m) : Blks w ad m c vs := hm ▸ h.blks
theorem stS_take (vs : List BlkV) (v : BlkV) : stS noS (bvals ((vs ++ [v]).take vs.length)) = stS noS (bvals vs) := by rw [List.take_left' rfl]
theorem take_all (vs : List BlkV) : stS noS (bvals (vs.take vs.length)) = stS noS (bvals vs) := by rw [List.take_length]
theorem next_nonneg {s : PS} {x : PB} (h : okS s x = true) (hs : -1 ≤ s.sec) : 0 ≤ (nextS s x).sec := by
  unfold nextS
  by_cases hk : x.kind = 1
  · rw [if_pos hk]; show 0 ≤ s.sec + 1; omega
  · rw [if_neg hk]
    have h0 : 0 ≤ s.sec := by
      by_cases h' : s.sec < 0
      · exact absurd (ok_neg h h') hk
      · omega
    split <;> exact h0
theorem st_ge (l : List PB) : -1 ≤ (stS noS l).sec := by rw [st_sec]; show -1 ≤ (-1 : Int) + _; omega
theorem refReadC_any (ad : Option Addr) (n c : Nat) (l : List UInt8) (w : World) (hs : Bs w ad n c l) (hn : n ≤ 900000) :
    Calls Try.prog 35 #[.slice ad n c] w (ReadQ (readP l) w) := by
  have HB := Hd (Below.refl w.heap.size w)
  have HS := Hd hs
  have hc := hs.le
  have HL := Hd hs.len
  have HBI := Hd z0d
  have HZI := Hd z1s
  clear hs
  go_enter Try.func35, Try.ntmps35
  go_wp2_with (first
 | ((with_reducible refine sl 3 ?_); (refine z09 rfl 49 rfl (.agg #[.int .i64 0, .int .i64 0]) #[.int .i64 0, .int .i64 0] 2 (by kernel_rfl) rfl ?_); intro w3 g3 he__ le_g3 lt_g3 hg__ hb__; have HG3 := Hd hg__; have hE__ := cU HB bup hb__; replace HB := ck HB hE__; clear hE__; clear hg__ hb__ he__; simp only [PT]))
  have HRD : Hid (readC (l.length + 1) noS [] 0 (l.drop 0) = readP l) := Hd rfl
  have l03 : w.heap.size ≤ g3 := le_g3
  have l33 : g3 < w3.heap.size := lt_of_block HG3.out
  go_loopw [4, 5] (fun o i wr => ∃ (k f : Nat) (vs : List BlkV) (ad' : Option Addr) (c' : Nat), k ≤ n ∧ i = .int .i64 (k : Int) ∧ o = .slice ad' vs.length c' ∧ vs.length ≤ k ∧ n < k + f ∧ (k = 0 ∨ Hid (0 ≤ (stS noS (bvals vs)).sec)) ∧ Hid (readC f (stS noS (bvals vs)) (bvals vs) k (l.drop k) = readP l) ∧ Hid (OwnBlks w3.heap.size wr ad' c' vs) ∧ Hid (Below w3.heap.size w3 wr) ∧ Hid (wr.heap[g3]? = some (.cells #[.int .i64 0, .int .i64 0] 49 (0, 0))) ∧ Hid (Below w.heap.size w wr)) (fun _ i _ => n - (intOf i).toNat)
  case atStart => exact ⟨0, l.length + 1, [], none, 0, by omega, rfl, rfl, by simp, by have := HL.out; omega, .inl rfl, HRD, Hd (OwnBlks.nil _ _), Hd (Below.refl _ _), HG3, HB⟩
  case round =>
    obtain ⟨k, f, vs, ad', c', hk, rfl, rfl, hvk, hf, hk0, HRC, HV, HZ, HG3r, HBr⟩ := hrel
    clear HRD HG3 HB
    have HG3 := HG3r
    have HB := HBr
    clear HG3r HBr
    obtain ⟨f, rfl⟩ : ∃ f', f = f' + 1 := ⟨f - 1, by omega⟩
    by_cases hend : k = n ∧ 0 < k
    · obtain ⟨rfl, h0⟩ := hend
      have HRES : Hid (readP l = (bvals vs, (0, 0))) := Hd (by rw [← HRC.out]; exact read_end (List.drop_eq_nil_of_le (Nat.le_of_eq HL.out.symm)) h0)
      go_wp2_with (first
 | ((with_reducible show wpList _ _ _ (⟨none, .store _ (.tmp 3) _, _, _, _, _⟩ :: _) _ _); (refine z02 rfl 49 (.tmp 3) (.tmp 22) rfl g3 #[.int .i64 0, .int .i64 0] rfl rfl HG3.out z0u rfl (z26 _ _) ?_); intro w20 hs__ hr__; (replace HB := Hd (HB.out.grown hr__ HB.out.size (fun k e => (by cases e; exact l03)))); (replace HV := Hd (HV.out.write hr__ l33)); clear HG3; have HG3 := Hd hs__; clear hs__ hr__; simp only [PT]))
      refine z0s (cs := [.int .i64 0, .int .i64 0]) rfl rfl (z00 HG3.out) Try.underlying49 rfl z0u rfl ?_
      rw [HRES.out]
      exact ⟨ad', c', vs, rfl, rfl, HV.out.blks, HB.out⟩
    · obtain ⟨m, hm⟩ : ∃ m, n - k = m := ⟨_, rfl⟩
      have hkn : k < n ∨ (k = 0 ∧ n = 0) := by omega
      obtain ⟨R, hR⟩ : ∃ R, Hid (l.drop k = R) := ⟨_, Hd rfl⟩
      have HRL : Hid (m = R.length) := Hd (by rw [← hR.out, List.length_drop, ← HL.out, hm])
      have HTK : Hid ((l.drop k).take m = R) := Hd (by rw [hR.out, HRL.out, List.take_length])
      have HNE : Hid (¬ (R = [] ∧ 0 < k)) := Hd (fun ⟨h1, h2⟩ => by have h3 := HRL.out; rw [h1] at h3; simp at h3; omega)
      have HRC2 : Hid (readC (f + 1) (stS noS (bvals vs)) (bvals vs) k R = readP l) := Hd (by rw [← hR.out]; exact HRC.out)
      obtain ⟨S, B, SL, hs⟩ : ∃ S B L, stS noS (bvals vs) = ⟨S, B, L⟩ := ⟨_, _, _, rfl⟩
      obtain ⟨N, hN⟩ : ∃ N, SL.length = N := ⟨_, rfl⟩
      have HST := Hd ((take_all vs).trans hs)
      have HST2 := Hd hs
      have HN := Hd hN
      have HGE : Hid (-1 ≤ S) := Hd (by have h := st_ge (bvals vs); rw [hs] at h; exact h)
      have hk0' : k = 0 ∨ 0 ≤ S := by
        rcases hk0 with h | h
        · exact .inl h
        · right; have h := h.out; rw [hs] at h; exact h
      rw [hs] at HRC2
      clear hs hN hend HRC hk0
      by_cases hk00 : k = 0 ∧ n = 0
      · obtain ⟨rfl, hn0⟩ := hk00
        have hm0 : m = 0 := by omega
        have hRn : R = [] := List.length_eq_zero_iff.1 (HRL.out.symm.trans hm0)
        have hX : getP B R = (noneB, 0, 2) := by rw [hRn]; rfl
        have hE : (2 : Int) ≠ 0 := by omega
        have HN2 : Hid (¬ (S < 0 ∧ 12 ≤ R.length ∧ R.take 4 ≠ markB)) := Hd (by rw [hRn]; simp)
        have hn1 : n ≤ 0 := by omega
        have hm1 : m ≤ 0 := by omega
        clear hRn hkn hn0 hm0
        by_cases hS : S < 0
        · obtain ⟨X, hXe⟩ : ∃ X, X = noneB := ⟨_, rfl⟩
          have HX : Hid (getP B R = (X, 0, 2)) := Hd (by rw [hXe]; exact hX)
          have HRES : Hid (readP l = (bvals vs, (0, 2))) := Hd (by rw [← HRC2.out]; exact read_bad HNE.out HN2.out hX hE)
          clear hX hXe hE
          go_wp2_with (first
 | (go_at_call 66; (refine (z27 S B SL N ad' vs.length c' vs vs.length HST.out HN.out _ (HV.out.keep bup).blks (by omega) (by omega)).mono ?_); intro e w6 hr; obtain ⟨sad, sc, rfl, _, hb__⟩ := hr; have hE__ := cU HB bup hb__; replace HB := ck HB hE__; replace HV := ck HV hE__; replace HG3 := ck HG3 hE__; replace HZ := ck HZ hE__; clear hE__; clear hb__)
 | ((with_reducible refine sl 50 ?_); (refine z0b elB rfl (.tmp 48) (some (.tmp 49)) none rfl rfl 0 n (.inr ⟨.i64, rfl⟩) (.inl ⟨rfl, rfl⟩) (by omega) (by omega) m (c - 0) (by omega) rfl ?_); intro adR hadR; (have HSR := Hd (Bs.partG (HS.out.below HB.out) 0 n m (c - 0) (by omega) (by omega) (by omega) rfl adR hadR R HTK.out)); clear hadR; simp only [PT])
 | (go_at_call 27; (refine (refGetB_at X 0 2 adR m (c - 0) R B HX.out _ HSR.out (by omega)).mono ?_); intro e w7 hr; (obtain ⟨v, rfl, hvx, hown, hb__⟩ := hr); have HVX := Hd hvx; have HVB := Hd (OwnBlk.base hown (Nat.le_trans HZ.out.size (bsz bup))); (have hE__ := cU HB bup hb__; replace HB := ck HB hE__; replace HV := ck HV hE__; replace HG3 := ck HG3 hE__; replace HZ := ck HZ hE__; clear hE__); clear hb__ hown hvx)
 | ((with_reducible refine sl 9 ?_); (refine z13 rfl rfl 27 rfl (.tmp 9) (.tmp 53) rfl v.cells.toArray _ HZI.out rfl (z0h _) (fun _ => rfl) (fun _ => rfl) ?_); intro w9 g9 le_g9 lt_g9 hg__ hb__; have HG9 := Hd hg__; have hE__ := cU HB bup hb__; replace HB := ck HB hE__; replace HV := ck HV hE__; replace HG3 := ck HG3 hE__; replace HZ := ck HZ hE__; replace HVB := ck HVB hE__; clear hE__; clear hg__ hb__; simp only [PT])
 | ((with_reducible show wpList _ _ _ (⟨none, .store _ (.tmp 3) _, _, _, _, _⟩ :: _) _ _); (refine z02 rfl 49 (.tmp 3) (.tmp 61) rfl g3 #[.int .i64 0, .int .i64 2] rfl rfl HG3.out z0u rfl (z26 _ _) ?_); intro w20 hs__ hr__; (replace HB := Hd (HB.out.grown hr__ HB.out.size (fun k e => (by cases e; exact l03)))); (replace HV := Hd (HV.out.write hr__ l33)); clear HG3; have HG3 := Hd hs__; clear hs__ hr__; simp only [PT]))
          refine z0s (cs := [.int .i64 0, .int .i64 2]) rfl rfl (z00 HG3.out) Try.underlying49 rfl z0u rfl ?_
          rw [HRES.out]
          exact ⟨ad', c', vs, rfl, rfl, HV.out.blks, HB.out⟩
        · obtain ⟨X, hXe⟩ : ∃ X, X = noneB := ⟨_, rfl⟩
          have HX : Hid (getP B R = (X, 0, 2)) := Hd (by rw [hXe]; exact hX)
          have HRES : Hid (readP l = (bvals vs, (0, 2))) := Hd (by rw [← HRC2.out]; exact read_bad HNE.out HN2.out hX hE)
          clear hX hXe hE
          go_wp2_with (first
 | (go_at_call 66; (refine (z27 S B SL N ad' vs.length c' vs vs.length HST.out HN.out _ (HV.out.keep bup).blks (by omega) (by omega)).mono ?_); intro e w6 hr; obtain ⟨sad, sc, rfl, _, hb__⟩ := hr; have hE__ := cU HB bup hb__; replace HB := ck HB hE__; replace HV := ck HV hE__; replace HG3 := ck HG3 hE__; replace HZ := ck HZ hE__; clear hE__; clear hb__)
 | ((with_reducible refine sl 50 ?_); (refine z0b elB rfl (.tmp 48) (some (.tmp 49)) none rfl rfl 0 n (.inr ⟨.i64, rfl⟩) (.inl ⟨rfl, rfl⟩) (by omega) (by omega) m (c - 0) (by omega) rfl ?_); intro adR hadR; (have HSR := Hd (Bs.partG (HS.out.below HB.out) 0 n m (c - 0) (by omega) (by omega) (by omega) rfl adR hadR R HTK.out)); clear hadR; simp only [PT])
 | (go_at_call 27; (refine (refGetB_at X 0 2 adR m (c - 0) R B HX.out _ HSR.out (by omega)).mono ?_); intro e w7 hr; (obtain ⟨v, rfl, hvx, hown, hb__⟩ := hr); have HVX := Hd hvx; have HVB := Hd (OwnBlk.base hown (Nat.le_trans HZ.out.size (bsz bup))); (have hE__ := cU HB bup hb__; replace HB := ck HB hE__; replace HV := ck HV hE__; replace HG3 := ck HG3 hE__; replace HZ := ck HZ hE__; clear hE__); clear hb__ hown hvx)
 | ((with_reducible refine sl 9 ?_); (refine z13 rfl rfl 27 rfl (.tmp 9) (.tmp 53) rfl v.cells.toArray _ HZI.out rfl (z0h _) (fun _ => rfl) (fun _ => rfl) ?_); intro w9 g9 le_g9 lt_g9 hg__ hb__; have HG9 := Hd hg__; have hE__ := cU HB bup hb__; replace HB := ck HB hE__; replace HV := ck HV hE__; replace HG3 := ck HG3 hE__; replace HZ := ck HZ hE__; replace HVB := ck HVB hE__; clear hE__; clear hg__ hb__; simp only [PT])
 | ((with_reducible show wpList _ _ _ (⟨none, .store _ (.tmp 3) _, _, _, _, _⟩ :: _) _ _); (refine z02 rfl 49 (.tmp 3) (.tmp 61) rfl g3 #[.int .i64 0, .int .i64 2] rfl rfl HG3.out z0u rfl (z26 _ _) ?_); intro w20 hs__ hr__; (replace HB := Hd (HB.out.grown hr__ HB.out.size (fun k e => (by cases e; exact l03)))); (replace HV := Hd (HV.out.write hr__ l33)); clear HG3; have HG3 := Hd hs__; clear hs__ hr__; simp only [PT]))
          refine z0s (cs := [.int .i64 0, .int .i64 2]) rfl rfl (z00 HG3.out) Try.underlying49 rfl z0u rfl ?_
          rw [HRES.out]
          exact ⟨ad', c', vs, rfl, rfl, HV.out.blks, HB.out⟩
      have hkp : k < n := by omega
      clear hkn hk00
      by_cases hmk : S < 0 ∧ 12 ≤ n ∧ R.take 4 ≠ markB
      · obtain ⟨hS, hm12, hmk⟩ := hmk
        have hk00 : k = 0 := by omega
        subst hk00
        have HRES : Hid (readP l = (bvals vs, (0, 3))) := Hd (by rw [← HRC2.out]; exact read_mark HNE.out ⟨hS, by rw [← HRL.out]; omega, hmk⟩)
        have s1 : ((strOf (R.take 4)).toList == ([10, 13, 13, 10] : List UInt8)) = false := by rw [z16]; simpa [markB] using hmk
        clear hmk
        go_wp2_with (first
 | (go_at_call 66; (refine (z27 S B SL N ad' vs.length c' vs vs.length HST.out HN.out _ (HV.out.keep bup).blks (by omega) (by omega)).mono ?_); intro e w6 hr; obtain ⟨sad, sc, rfl, _, hb__⟩ := hr; have hE__ := cU HB bup hb__; replace HB := ck HB hE__; replace HV := ck HV hE__; replace HG3 := ck HG3 hE__; replace HZ := ck HZ hE__; clear hE__; clear hb__)
 | ((with_reducible refine sl 40 ?_); (refine z0b elB rfl (.tmp 39) (some (.const (.int .i64 0))) (some (.const (.int .i64 4))) rfl rfl 0 4 (.inr ⟨.i64, rfl⟩) (.inr ⟨.i64, rfl⟩) (by omega) (by omega) 4 c rfl (by omega) ?_); intro ad4 had4; (have HS4 := Hd (Bs.partG (HS.out.below HB.out) 0 4 4 c (by omega) (by omega) rfl (by omega) ad4 had4 (R.take 4) (by rw [hR.out]))); clear had4; simp only [PT])
 | ((with_reducible refine sl 41 ?_); (refine z2h elB.1 (by kernel_rfl) (by kernel_rfl) rfl (.tmp 40) rfl rfl (HS4.out.below bup) ?_); simp only [PT])
 | ((with_reducible show wpList _ _ _ (⟨none, .store _ (.tmp 3) _, _, _, _, _⟩ :: _) _ _); (refine z02 rfl 49 (.tmp 3) (.tmp 46) rfl g3 #[.int .i64 0, .int .i64 3] rfl rfl HG3.out z0u rfl (z26 _ _) ?_); intro w20 hs__ hr__; (replace HB := Hd (HB.out.grown hr__ HB.out.size (fun k e => (by cases e; exact l03)))); (replace HV := Hd (HV.out.write hr__ l33)); clear HG3; have HG3 := Hd hs__; clear hs__ hr__; simp only [PT]))
        refine z0s (cs := [.int .i64 0, .int .i64 3]) rfl rfl (z00 HG3.out) Try.underlying49 rfl z0u rfl ?_
        rw [HRES.out]
        exact ⟨ad', c', vs, rfl, rfl, HV.out.blks, HB.out⟩
      have HN2 : Hid (¬ (S < 0 ∧ 12 ≤ R.length ∧ R.take 4 ≠ markB)) := Hd (fun h => hmk ⟨h.1, by have h1 := h.2.1; have h2 := HRL.out; omega, h.2.2⟩)
      have hways : (S < 0 ∧ 12 ≤ n ∧ k ≤ 0 ∧ ((strOf (R.take 4)).toList == ([10, 13, 13, 10] : List UInt8)) = true) ∨ (S < 0 ∧ ¬ 12 ≤ n ∧ k ≤ 0) ∨ (¬ S < 0 ∧ 0 < k) := by
        by_cases hS : S < 0
        · have hk1 : k ≤ 0 := by omega
          by_cases hm12 : 12 ≤ n
          · refine .inl ⟨hS, hm12, hk1, ?_⟩
            rw [z16, Classical.byContradiction fun h => hmk ⟨hS, hm12, h⟩]
            rfl
          · exact .inr (.inl ⟨hS, hm12, hk1⟩)
        · refine .inr (.inr ⟨hS, ?_⟩)
          rcases Nat.eq_zero_or_pos k with h | h
          · exfalso
            have hv0 : vs = [] := List.length_eq_zero_iff.1 (by omega)
            have h2 := HST2.out
            rw [hv0] at h2
            have h3 : (-1 : Int) = S := congrArg PS.sec h2
            omega
          · exact h
      clear hmk
      obtain ⟨X, N', E, hX⟩ : ∃ X N E, getP B R = (X, N, E) := ⟨_, _, _, rfl⟩
      have hok : E = 0 → N' ≤ m ∧ 12 ≤ N' := fun h => by
        have hok := get_ok B R (by rw [hX]; exact h)
        rw [hX, ← HRL.out] at hok
        exact ⟨hok.2.2.2.1, hok.2.2.2.2.1⟩
      have HOKN := Hd hok
      have HX := Hd hX
      clear hX hok
      by_cases hE : E = 0
      · subst hE
        have hN := HOKN.out rfl
        have hN1 : N' ≤ m := hN.1
        have hN2 : 12 ≤ N' := hN.2
        clear hN
        rcases hways with ⟨hS, hm12, hk1, s1⟩ | ⟨hS, hm12, hk1⟩ | ⟨hS, hk1⟩
        rotate_left
        · omega
        all_goals
          go_wp2_with (first
 | (go_at_call 66; (refine (z27 S B SL N ad' vs.length c' vs vs.length HST.out HN.out _ (HV.out.keep bup).blks (by omega) (by omega)).mono ?_); intro e w6 hr; obtain ⟨sad, sc, rfl, _, hb__⟩ := hr; have hE__ := cU HB bup hb__; replace HB := ck HB hE__; replace HV := ck HV hE__; replace HG3 := ck HG3 hE__; replace HZ := ck HZ hE__; clear hE__; clear hb__)
 | ((with_reducible refine sl 40 ?_); (refine z0b elB rfl (.tmp 39) (some (.const (.int .i64 0))) (some (.const (.int .i64 4))) rfl rfl 0 4 (.inr ⟨.i64, rfl⟩) (.inr ⟨.i64, rfl⟩) (by omega) (by omega) 4 c rfl (by omega) ?_); intro ad4 had4; (have HS4 := Hd (Bs.partG (HS.out.below HB.out) 0 4 4 c (by omega) (by omega) rfl (by omega) ad4 had4 (R.take 4) (by rw [← hR.out, show k = 0 by omega]))); clear had4; simp only [PT])
 | ((with_reducible refine sl 41 ?_); (refine z2h elB.1 (by kernel_rfl) (by kernel_rfl) rfl (.tmp 40) rfl rfl (HS4.out.below bup) ?_); simp only [PT])
 | ((with_reducible refine sl 50 ?_); (refine z0b elB rfl (.tmp 48) (some (.tmp 49)) none rfl rfl k n (.inr ⟨.i64, rfl⟩) (.inl ⟨rfl, rfl⟩) (by omega) (by omega) m (c - k) (by omega) rfl ?_); intro adR hadR; (have HSR := Hd (Bs.partG (HS.out.below HB.out) k n m (c - k) (by omega) (by omega) (by omega) rfl adR hadR R HTK.out)); clear hadR; simp only [PT])
 | (go_at_call 27; (refine (refGetB_at X N' 0 adR m (c - k) R B HX.out _ HSR.out (by omega)).mono ?_); intro e w7 hr; (obtain ⟨v, rfl, hvx, hown, hb__⟩ := hr); have HVX := Hd hvx; have HVB := Hd (OwnBlk.base hown (Nat.le_trans HZ.out.size (bsz bup))); (have hE__ := cU HB bup hb__; replace HB := ck HB hE__; replace HV := ck HV hE__; replace HG3 := ck HG3 hE__; replace HZ := ck HZ hE__; clear hE__); clear hb__ hown hvx)
 | ((with_reducible refine sl 9 ?_); (refine z13 rfl rfl 27 rfl (.tmp 9) (.tmp 53) rfl v.cells.toArray _ HZI.out rfl (z0h _) (fun _ => rfl) (fun _ => rfl) ?_); intro w9 g9 le_g9 lt_g9 hg__ hb__; have HG9 := Hd hg__; have hE__ := cU HB bup hb__; replace HB := ck HB hE__; replace HV := ck HV hE__; replace HG3 := ck HG3 hE__; replace HZ := ck HZ hE__; replace HVB := ck HVB hE__; clear hE__; clear hg__ hb__; simp only [PT]))
          have HE := Hd (Below.refl w9.heap.size w9)
          refine wp_region_held_drew (S := fun u__ => u__.heap[g9]? = some (.cells v.cells.toArray 27 (0, 0))) (by kernel_rfl) ?_ (fun hHeld => ?_); (focus (exact hatE HE bup HG9)); (refine tk 1 (oi := ⟨some 63, _, _, _, _, _⟩) (v := ?_) rfl (by kernel_rfl) (.inl ⟨by rfl, ?_⟩) hHeld ?_; rotate_left; focus (intro w hSw; (try dsimp only at hSw); go_simp; try with_reducible rfl)); simp only [PT]; refine' tk 3 (oi := ⟨some 65, _, _, _, _, _⟩) (v := _) rfl (by kernel_rfl) (yieldsIf_load_mid (by rfl) _ _ rfl _ _ rfl (v.cells) _ (fun _ h => z00 h) (Try.underlying27) rfl (HBI.out)) hHeld ?_; simp only [PT]; refine wpAnyH_ready (rs := [0, 4]) (by kernel_rfl) (by simp) ?_; refine (AllReadyH.cons (o := ⟨some 62, _, _, _, _, _⟩) rfl (fun K hK => ?_) (AllReadyH.cons (o := ⟨some 66, _, _, _, _, _⟩) rfl (fun K hK => ?_) AllReadyH.nil)); ((refine step_lit0K rfl rfl ?_); intro wl62 gl62 le62 lt62 hown__ hb__; (try (have q1 := Nat.lt_of_lt_of_le lt66 (Nat.le_trans (bsz (w := wl66) bup) le62))); (have HQ := Hd (z0r hown__ (Nat.le_trans HE.out.size (bsz bup)))); (try (replace HLT := ckk HLT bup hb__)); (replace HE := cE0 HE bup hb__); clear hown__ hb__); refine hK.out _ _ ?_ (fun hHeld => ?_); (focus (exact hatE HE bup HG9)); clear hK K; (try simp only [PT]); refine wpAnyH_ready (rs := [2, 4]) (by kernel_rfl) (by simp) ?_; refine (AllReadyH.cons (o := ⟨some 64, _, _, _, _, _⟩) rfl (fun K hK => ?_) (AllReadyH.cons (o := ⟨some 66, _, _, _, _, _⟩) rfl (fun K hK => ?_) AllReadyH.nil)); ((refine z1t elK rfl (.tmp 62) (.tmp 63) rfl w9.heap.size rfl (z08 HQ.out bup) rfl ((HV.out.blks.1.below HE.out).below bup) (bcells_one _) vs.length (by omega) (by unfold maxLen; omega) (by omega) (Nat.le_trans HE.out.size (bsz bup)) ?_); intro ad64 c64 w64 ho__ hg__; (try (replace HLT := Hd ((hg__.block gl66 (lt_of_block (hatB HLT bup)) (fun e => (by simp [Value.ownBlock] at e; omega))).trans (hatB HLT bup)))); (replace HE := cEa HE bup hg__ (z07 HQ.out)); clear HQ; have HQ := Hd ho__; clear ho__ hg__; (try clear lt62)); refine hK.out _ _ ?_ (fun hHeld => ?_); (focus (exact hatE HE bup HG9)); clear hK K; (try simp only [PT]); refine wpAnyH_ready (rs := [4]) (by kernel_rfl) (by simp) ?_; refine (AllReadyH.cons (o := ⟨some 66, _, _, _, _, _⟩) rfl (fun K hK => ?_) AllReadyH.nil); ((refine step_lit1 rfl 44 27 (.tmp 65) rfl v.cells.toArray _ rfl 11 Try.underlying44 HZI.out (by omega) (by omega) (z3s v) ?_); intro wl66 gl66 le66 lt66 hg__ hb__; (try (have q2 := Nat.lt_of_lt_of_le lt62 (Nat.le_trans (bsz (w := wl62) bup) le66))); have HLT := Hd hg__; (try (replace HQ := Hd (z08 (z08 HQ.out bup) hb__))); (replace HE := cE0 HE bup hb__); clear hg__ hb__); refine hK.out _ _ ?_ (fun hHeld => ?_); (focus (exact hatE HE bup HG9)); clear hK K; (try simp only [PT]); refine wpAnyH_ready (rs := [5]) (by kernel_rfl) (by simp) ?_; refine (AllReadyH.cons (o := ⟨some 67, _, _, _, _, _⟩) rfl (fun K hK => ?_) AllReadyH.nil); ((refine z1t elK rfl (.tmp 64) (.tmp 66) rfl w9.heap.size rfl (z08 HQ.out bup) rfl (z35 (cs := v.cells) (hatB HLT bup)) (BlkV.one v) (vs.length + 1) rfl (by unfold maxLen; omega) (by omega) (Nat.le_trans HE.out.size (bsz bup)) ?_); intro ad67 c67 w67 ho__ hg__; (replace HE := cEa HE bup hg__ (z07 HQ.out)); clear HQ HLT; have HQ := Hd ho__; clear ho__ hg__); refine hK.out _ _ ?_ (fun hHeld => ?_); (focus (exact hatE HE bup HG9)); clear hK K; (try simp only [PT]); (refine tk 6 (oi := ⟨some 12, _, _, _, _, _⟩) (v := ?_) rfl (by kernel_rfl) (.inl ⟨by rfl, ?_⟩) hHeld ?_; rotate_left; focus (intro w hSw; (try dsimp only at hSw); go_simp; try with_reducible rfl)); simp only [PT]; refine wpAnyH_done (by kernel_rfl) ?_ _; rotate_left
          ((refine step_lit1 rfl 44 27 (.tmp 65) rfl v.cells.toArray _ rfl 11 Try.underlying44 HZI.out (by omega) (by omega) (z3s v) ?_); intro wl66 gl66 le66 lt66 hg__ hb__; (try (have q2 := Nat.lt_of_lt_of_le lt62 (Nat.le_trans (bsz (w := wl62) bup) le66))); have HLT := Hd hg__; (try (replace HQ := Hd (z08 (z08 HQ.out bup) hb__))); (replace HE := cE0 HE bup hb__); clear hg__ hb__); refine hK.out _ _ ?_ (fun hHeld => ?_); (focus (exact hatE HE bup HG9)); clear hK K; (try simp only [PT]); refine wpAnyH_ready (rs := [2]) (by kernel_rfl) (by simp) ?_; refine (AllReadyH.cons (o := ⟨some 64, _, _, _, _, _⟩) rfl (fun K hK => ?_) AllReadyH.nil); ((refine z1t elK rfl (.tmp 62) (.tmp 63) rfl w9.heap.size rfl (z08 HQ.out bup) rfl ((HV.out.blks.1.below HE.out).below bup) (bcells_one _) vs.length (by omega) (by unfold maxLen; omega) (by omega) (Nat.le_trans HE.out.size (bsz bup)) ?_); intro ad64 c64 w64 ho__ hg__; (try (replace HLT := Hd ((hg__.block gl66 (lt_of_block (hatB HLT bup)) (fun e => (by simp [Value.ownBlock] at e; omega))).trans (hatB HLT bup)))); (replace HE := cEa HE bup hg__ (z07 HQ.out)); clear HQ; have HQ := Hd ho__; clear ho__ hg__; (try clear lt62)); refine hK.out _ _ ?_ (fun hHeld => ?_); (focus (exact hatE HE bup HG9)); clear hK K; (try simp only [PT]); refine wpAnyH_ready (rs := [5]) (by kernel_rfl) (by simp) ?_; refine (AllReadyH.cons (o := ⟨some 67, _, _, _, _, _⟩) rfl (fun K hK => ?_) AllReadyH.nil); ((refine z1t elK rfl (.tmp 64) (.tmp 66) rfl w9.heap.size rfl (z08 HQ.out bup) rfl (z35 (cs := v.cells) (hatB HLT bup)) (BlkV.one v) (vs.length + 1) rfl (by unfold maxLen; omega) (by omega) (Nat.le_trans HE.out.size (bsz bup)) ?_); intro ad67 c67 w67 ho__ hg__; (replace HE := cEa HE bup hg__ (z07 HQ.out)); clear HQ HLT; have HQ := Hd ho__; clear ho__ hg__); refine hK.out _ _ ?_ (fun hHeld => ?_); (focus (exact hatE HE bup HG9)); clear hK K; (try simp only [PT]); (refine tk 6 (oi := ⟨some 12, _, _, _, _, _⟩) (v := ?_) rfl (by kernel_rfl) (.inl ⟨by rfl, ?_⟩) hHeld ?_; rotate_left; focus (intro w hSw; (try dsimp only at hSw); go_simp; try with_reducible rfl)); simp only [PT]; refine wpAnyH_done (by kernel_rfl) ?_ _; rotate_left; ((refine step_lit1 rfl 44 27 (.tmp 65) rfl v.cells.toArray _ rfl 11 Try.underlying44 HZI.out (by omega) (by omega) (z3s v) ?_); intro wl66 gl66 le66 lt66 hg__ hb__; (try (have q2 := Nat.lt_of_lt_of_le lt62 (Nat.le_trans (bsz (w := wl62) bup) le66))); have HLT := Hd hg__; (try (replace HQ := Hd (z08 (z08 HQ.out bup) hb__))); (replace HE := cE0 HE bup hb__); clear hg__ hb__); refine hK.out _ _ ?_ (fun hHeld => ?_); (focus (exact hatE HE bup HG9)); clear hK K; (try simp only [PT]); refine wpAnyH_ready (rs := [0]) (by kernel_rfl) (by simp) ?_; refine (AllReadyH.cons (o := ⟨some 62, _, _, _, _, _⟩) rfl (fun K hK => ?_) AllReadyH.nil); ((refine step_lit0K rfl rfl ?_); intro wl62 gl62 le62 lt62 hown__ hb__; (try (have q1 := Nat.lt_of_lt_of_le lt66 (Nat.le_trans (bsz (w := wl66) bup) le62))); (have HQ := Hd (z0r hown__ (Nat.le_trans HE.out.size (bsz bup)))); (try (replace HLT := ckk HLT bup hb__)); (replace HE := cE0 HE bup hb__); clear hown__ hb__); refine hK.out _ _ ?_ (fun hHeld => ?_); (focus (exact hatE HE bup HG9)); clear hK K; (try simp only [PT]); refine wpAnyH_ready (rs := [2]) (by kernel_rfl) (by simp) ?_; refine (AllReadyH.cons (o := ⟨some 64, _, _, _, _, _⟩) rfl (fun K hK => ?_) AllReadyH.nil)
          ((refine z1t elK rfl (.tmp 62) (.tmp 63) rfl w9.heap.size rfl (z08 HQ.out bup) rfl ((HV.out.blks.1.below HE.out).below bup) (bcells_one _) vs.length (by omega) (by unfold maxLen; omega) (by omega) (Nat.le_trans HE.out.size (bsz bup)) ?_); intro ad64 c64 w64 ho__ hg__; (try (replace HLT := Hd ((hg__.block gl66 (lt_of_block (hatB HLT bup)) (fun e => (by simp [Value.ownBlock] at e; omega))).trans (hatB HLT bup)))); (replace HE := cEa HE bup hg__ (z07 HQ.out)); clear HQ; have HQ := Hd ho__; clear ho__ hg__; (try clear lt62)); refine hK.out _ _ ?_ (fun hHeld => ?_); (focus (exact hatE HE bup HG9)); clear hK K; (try simp only [PT]); refine wpAnyH_ready (rs := [5]) (by kernel_rfl) (by simp) ?_; refine (AllReadyH.cons (o := ⟨some 67, _, _, _, _, _⟩) rfl (fun K hK => ?_) AllReadyH.nil); ((refine z1t elK rfl (.tmp 64) (.tmp 66) rfl w9.heap.size rfl (z08 HQ.out bup) rfl (z35 (cs := v.cells) (hatB HLT bup)) (BlkV.one v) (vs.length + 1) rfl (by unfold maxLen; omega) (by omega) (Nat.le_trans HE.out.size (bsz bup)) ?_); intro ad67 c67 w67 ho__ hg__; (replace HE := cEa HE bup hg__ (z07 HQ.out)); clear HQ HLT; have HQ := Hd ho__; clear ho__ hg__); refine hK.out _ _ ?_ (fun hHeld => ?_); (focus (exact hatE HE bup HG9)); clear hK K; (try simp only [PT]); (refine tk 6 (oi := ⟨some 12, _, _, _, _, _⟩) (v := ?_) rfl (by kernel_rfl) (.inl ⟨by rfl, ?_⟩) hHeld ?_; rotate_left; focus (intro w hSw; (try dsimp only at hSw); go_simp; try with_reducible rfl)); simp only [PT]; refine wpAnyH_done (by kernel_rfl) ?_ _; rotate_left
          all_goals
            replace HB := Hd (HB.out.trans (HE.out.mono HB.out.size))
            replace HG3 := Hd (hatE HE (Below.refl _ _) HG3)
            have hz9 : w3.heap.size ≤ w9.heap.size := HZ.out.size
            replace HZ := Hd (HZ.out.trans (HE.out.mono HZ.out.size))
            have HW : Hid (OwnBlks w3.heap.size w67 ad67 c67 (vs ++ [v])) := Hd ⟨by rw [bcells_snoc, List.length_append]; exact z0r HQ.out hz9, fun u hu => by rcases List.mem_append.1 hu with h | h; exact ⟨((HV.out.2 u h).1).keep HE.out, fun y hy => OwnBlk.apart_lt (HV.out.2 u h).1 (z18 HQ.out y hy).1⟩; simp at h; rw [h]; exact ⟨HVB.out.keep HE.out, fun y hy => OwnBlk.apart_lt HVB.out (z18 HQ.out y hy).1⟩⟩
            replace HV := Hd (HV.out.keep HE.out)
            clear HQ HE
            cases hO : okS ⟨S, B, SL⟩ X
            · have HOK := Hd hO
              have HRES : Hid (readP l = (bvals vs, (k, 5))) := Hd (by rw [← HRC2.out]; exact read_none HNE.out HN2.out HX.out HOK.out)
              clear hO
              have HFT : Hid (okS (stS noS (bvals ((vs ++ [v]).take vs.length))) v.val = false) := Hd (by rw [stS_take, HST2.out, HVX.out]; exact HOK.out)
              go_wp2_with (first
 | (go_at_call 65; (refine (fits27_any _ ad67 (vs.length + 1) c67 (vs ++ [v]) vs.length v HFT.out _ (OwnBlks.blksN (HW.out.keep bup) (by simp)) (by omega) (by omega) (by simp)).mono ?_); intro e w71 hr; obtain ⟨rfl, hb__⟩ := hr; have hE__ := cU HB bup hb__; replace HB := ck HB hE__; replace HV := ck HV hE__; replace HG3 := ck HG3 hE__; replace HZ := ck HZ hE__; replace HW := ck HW hE__; clear hE__; clear hb__)
 | ((with_reducible show wpList _ _ _ (⟨none, .store _ (.tmp 3) _, _, _, _, _⟩ :: _) _ _); (refine z02 rfl 49 (.tmp 3) (.tmp 75) rfl g3 #[.int .i64 (k : Int), .int .i64 5] rfl rfl HG3.out z0u rfl (z26 _ _) ?_); intro w20 hs__ hr__; (replace HB := Hd (HB.out.grown hr__ HB.out.size (fun k e => (by cases e; exact l03)))); (replace HV := Hd (HV.out.write hr__ l33)); clear HG3; have HG3 := Hd hs__; clear hs__ hr__; simp only [PT]))
              refine z0s (cs := [.int .i64 (k : Int), .int .i64 5]) rfl rfl (z00 HG3.out) Try.underlying49 rfl z0u rfl ?_
              rw [HRES.out]
              exact ⟨ad', c', vs, rfl, rfl, HV.out.blks, HB.out⟩
            · have HOK := Hd hO
              have hRN := read_next (f := f) (acc := bvals vs) (at_ := k) HNE.out HN2.out HX.out hO
              rw [HRC2.out] at hRN
              have HRN := Hd hRN
              have HNN := Hd (next_nonneg hO HGE.out)
              clear hO hRN
              have HFT : Hid (okS (stS noS (bvals ((vs ++ [v]).take vs.length))) v.val = true) := Hd (by rw [stS_take, HST2.out, HVX.out]; exact HOK.out)
              go_wp2_with (first
 | (go_at_call 65; (refine (fits27_any _ ad67 (vs.length + 1) c67 (vs ++ [v]) vs.length v HFT.out _ (OwnBlks.blksN (HW.out.keep bup) (by simp)) (by omega) (by omega) (by simp)).mono ?_); intro e w71 hr; obtain ⟨rfl, hb__⟩ := hr; have hE__ := cU HB bup hb__; replace HB := ck HB hE__; replace HV := ck HV hE__; replace HG3 := ck HG3 hE__; replace HZ := ck HZ hE__; replace HW := ck HW hE__; clear hE__; clear hb__))
              go_roundw
              case rel => exact ⟨k + N', f, vs ++ [v], ad67, c67, by omega, by go_num, by simp, by simp; omega, by omega, .inr (Hd (by rw [bvals_snoc, HVX.out, stS_snoc, HST2.out]; exact HNN.out)), Hd (by rw [bvals_snoc, HVX.out, stS_snoc, HST2.out, ← List.drop_drop, hR.out]; exact HRN.out.symm), HW, HZ, HG3, HB⟩
              case measure => first | (simp [intOf]; done) | (simp [intOf]; omega)
      · rcases hways with ⟨hS, hm12, hk1, s1⟩ | ⟨hS, hm12, hk1⟩ | ⟨hS, hk1⟩
        all_goals
          have HRES : Hid (readP l = (bvals vs, (k, E))) := Hd (by rw [← HRC2.out]; exact read_bad HNE.out HN2.out HX.out hE)
          go_wp2_with (first
 | (go_at_call 66; (refine (z27 S B SL N ad' vs.length c' vs vs.length HST.out HN.out _ (HV.out.keep bup).blks (by omega) (by omega)).mono ?_); intro e w6 hr; obtain ⟨sad, sc, rfl, _, hb__⟩ := hr; have hE__ := cU HB bup hb__; replace HB := ck HB hE__; replace HV := ck HV hE__; replace HG3 := ck HG3 hE__; replace HZ := ck HZ hE__; clear hE__; clear hb__)
 | ((with_reducible refine sl 40 ?_); (refine z0b elB rfl (.tmp 39) (some (.const (.int .i64 0))) (some (.const (.int .i64 4))) rfl rfl 0 4 (.inr ⟨.i64, rfl⟩) (.inr ⟨.i64, rfl⟩) (by omega) (by omega) 4 c rfl (by omega) ?_); intro ad4 had4; (have HS4 := Hd (Bs.partG (HS.out.below HB.out) 0 4 4 c (by omega) (by omega) rfl (by omega) ad4 had4 (R.take 4) (by rw [← hR.out, show k = 0 by omega]))); clear had4; simp only [PT])
 | ((with_reducible refine sl 41 ?_); (refine z2h elB.1 (by kernel_rfl) (by kernel_rfl) rfl (.tmp 40) rfl rfl (HS4.out.below bup) ?_); simp only [PT])
 | ((with_reducible refine sl 50 ?_); (refine z0b elB rfl (.tmp 48) (some (.tmp 49)) none rfl rfl k n (.inr ⟨.i64, rfl⟩) (.inl ⟨rfl, rfl⟩) (by omega) (by omega) m (c - k) (by omega) rfl ?_); intro adR hadR; (have HSR := Hd (Bs.partG (HS.out.below HB.out) k n m (c - k) (by omega) (by omega) (by omega) rfl adR hadR R HTK.out)); clear hadR; simp only [PT])
 | (go_at_call 27; (refine (refGetB_at X N' E adR m (c - k) R B HX.out _ HSR.out (by omega)).mono ?_); intro e w7 hr; (obtain ⟨v, rfl, hvx, hown, hb__⟩ := hr); have HVX := Hd hvx; have HVB := Hd (OwnBlk.base hown (Nat.le_trans HZ.out.size (bsz bup))); (have hE__ := cU HB bup hb__; replace HB := ck HB hE__; replace HV := ck HV hE__; replace HG3 := ck HG3 hE__; replace HZ := ck HZ hE__; clear hE__); clear hb__ hown hvx)
 | ((with_reducible refine sl 9 ?_); (refine z13 rfl rfl 27 rfl (.tmp 9) (.tmp 53) rfl v.cells.toArray _ HZI.out rfl (z0h _) (fun _ => rfl) (fun _ => rfl) ?_); intro w9 g9 le_g9 lt_g9 hg__ hb__; have HG9 := Hd hg__; have hE__ := cU HB bup hb__; replace HB := ck HB hE__; replace HV := ck HV hE__; replace HG3 := ck HG3 hE__; replace HZ := ck HZ hE__; replace HVB := ck HVB hE__; clear hE__; clear hg__ hb__; simp only [PT])
 | ((with_reducible show wpList _ _ _ (⟨none, .store _ (.tmp 3) _, _, _, _, _⟩ :: _) _ _); (refine z02 rfl 49 (.tmp 3) (.tmp 61) rfl g3 #[.int .i64 (k : Int), .int .i64 E] rfl rfl HG3.out z0u rfl (z26 _ _) ?_); intro w20 hs__ hr__; (replace HB := Hd (HB.out.grown hr__ HB.out.size (fun k e => (by cases e; exact l03)))); (replace HV := Hd (HV.out.write hr__ l33)); clear HG3; have HG3 := Hd hs__; clear hs__ hr__; simp only [PT]))
          refine z0s (cs := [.int .i64 (k : Int), .int .i64 E]) rfl rfl (z00 HG3.out) Try.underlying49 rfl z0u rfl ?_
          rw [HRES.out]
          exact ⟨ad', c', vs, rfl, rfl, HV.out.blks, HB.out⟩
end Go.Proofs.Ytmfplinbbcoahaa
namespace Go.Proofs.Ytmfplinbbcoahaa
open Go.RowKit Go.Sort
theorem refReadC_at (P : List PB) (A : Nat) (E : Int) (M : Nat) (ad : Option Addr) (n c : Nat) (l : List UInt8) (hP : readP l = (P, (A, E))) (hM : P.length = M) (w : World) (hs : Bs w ad n c l) (hn : n ≤ 900000) :
    Calls Try.prog 35 #[.slice ad n c] w fun e w' => ∃ ad c vs, e = .returned (.tuple #[.slice ad M c, .agg (spotC (A, E)).toArray]) ∧ bvals vs = P ∧ Blks w' ad M c vs ∧ Below w.heap.size w w' := by
  refine (refReadC_any ad n c l w hs hn).mono fun e w' h => ?_
  obtain ⟨ad, c, vs, he, hv, ho, hb⟩ := h
  rw [hP] at he hv
  have hl : vs.length = M := by rw [← hM, ← z2k]; exact congrArg List.length hv
  rw [hl] at he ho
  exact ⟨ad, c, vs, he, hv, ho, hb⟩
theorem reads27_walk (ad : Option Addr) (n c : Nat) (l : List UInt8) (w : World) (hs : Bs w ad n c l) :
    Calls Try.prog 11 #[.slice ad n c] w fun e w' => e = .returned (.bool true) ∧ Below w.heap.size w w' := by
  have HB := Hd (Below.refl w.heap.size w)
  have HL := Hd hs
  have hln := hs.len
  have hle := hs.le
  have HSI := Hd z0u
  clear hs
  by_cases hi : 20000 < n
  · have hi2 : (20000 : Int) < (n : Int) := by omega
    go_enter Try.func11, Try.ntmps11
    go_wp2_with (first
 | (go_at_call 28; (refine (pcAwake_any _).mono ?_); intro e wc1 hr; obtain ⟨rfl, hb__⟩ := hr; have hE__ := cU HB bup hb__; replace HB := ck HB hE__; replace HL := ck HL hE__; clear hE__; clear hb__))
    go_ret
    exact ⟨rfl, HB.out⟩
  have hi2 : ¬ (20000 : Int) < (n : Int) := by omega
  obtain ⟨P, A, E, hP⟩ : ∃ P A E, readP l = (P, (A, E)) := ⟨_, _, _, rfl⟩
  obtain ⟨M, hM⟩ : ∃ M, P.length = M := ⟨_, rfl⟩
  have HP := Hd hP
  have HM := Hd hM
  have hMn : M ≤ 20000 := by
    have := (readP_right l 20016 (by omega) (by omega)).2.2
    rw [hP] at this
    simp only at this
    omega
  clear hP hM hln
  go_enter Try.func11, Try.ntmps11
  go_wp2_with (first
 | (go_at_call 28; (refine (pcAwake_any _).mono ?_); intro e wc1 hr; obtain ⟨rfl, hb__⟩ := hr; have hE__ := cU HB bup hb__; replace HB := ck HB hE__; replace HL := ck HL hE__; clear hE__; clear hb__)
 | (go_at_call 34; (refine (z2n P A E M ad n c l HP.out HM.out _ (HL.out.below bup) (by omega)).mono ?_); intro e wc2 hr; obtain ⟨ad1, c1, vs1, rfl, hv1, hl1, ho__, hb__⟩ := hr; have HX1 := Hd (show Blks _ ad1 M c1 vs1 from hl1 ▸ ho__.blks); have HV1 := Hd hv1; clear ho__ hv1 hl1; have hE__ := cU HB bup hb__; replace HB := ck HB hE__; replace HL := ck HL hE__; clear hE__; clear hb__)
 | ((with_reducible refine sl 4 ?_); (refine z09 rfl 49 rfl (.agg (spotC (0, 0)).toArray) (spotC (0, 0)).toArray 2 (by kernel_rfl) rfl ?_); intro ws4 g4 he__ le_g4 lt_g4 hg__ hb__; have HG4 := Hd hg__; have HE4 := Hd hb__; clear hg__ hb__ he__; simp only [PT])
 | ((with_reducible show wpList _ _ _ (⟨none, .store _ (.tmp 4) (.tmp 19), _, _, _, _⟩ :: _) _ _); (refine z02 rfl 49 (.tmp 4) (.tmp 19) rfl g4 (spotC (A, E)).toArray rfl rfl HG4.out HSI.out rfl (z30 _) ?_); intro wt4 hs__ hr__; (have hb__ := HE4.out.grown hr__ HE4.out.size (fun k e => (by cases e; exact le_g4))); (have hE__ := cU HB bup hb__; replace HB := ck HB hE__; replace HL := ck HL hE__; replace HX1 := ck HX1 hE__; clear hE__); clear HG4 HE4; have HG4 := Hd hs__; clear hs__ hr__ hb__; simp only [PT])
 | (go_at_call 35; (refine (refReadC_at P A E M ad n c l HP.out HM.out _ (HL.out.below bup) (by omega)).mono ?_); intro e wc3 hr; obtain ⟨ad2, c2, vs2, rfl, hv2, ho__, hb__⟩ := hr; have HX2 := Hd ho__; have HV2 := Hd hv2; clear ho__ hv2; have hE__ := cU HB bup hb__; replace HB := ck HB hE__; replace HL := ck HL hE__; replace HX1 := ck HX1 hE__; replace HG4 := ck HG4 hE__; clear hE__; clear hb__)
 | ((with_reducible refine sl 6 ?_); (refine z09 rfl 49 rfl (.agg (spotC (0, 0)).toArray) (spotC (0, 0)).toArray 2 (by kernel_rfl) rfl ?_); intro ws6 g6 he__ le_g6 lt_g6 hg__ hb__; have HG6 := Hd hg__; have HE6 := Hd hb__; clear hg__ hb__ he__; simp only [PT])
 | ((with_reducible show wpList _ _ _ (⟨none, .store _ (.tmp 6) (.tmp 24), _, _, _, _⟩ :: _) _ _); (refine z02 rfl 49 (.tmp 6) (.tmp 24) rfl g6 (spotC (A, E)).toArray rfl rfl HG6.out HSI.out rfl (z30 _) ?_); intro wt6 hs__ hr__; (have hb__ := HE6.out.grown hr__ HE6.out.size (fun k e => (by cases e; exact le_g6))); (have hE__ := cU HB bup hb__; replace HB := ck HB hE__; replace HL := ck HL hE__; replace HX1 := ck HX1 hE__; replace HG4 := ck HG4 hE__; replace HX2 := ck HX2 hE__; clear hE__); clear HG6 HE6; have HG6 := Hd hs__; clear hs__ hr__ hb__; simp only [PT])
 | ((with_reducible refine sl 25 ?_); (refine z05 rfl 49 (.tmp 4) rfl g4 0 rfl (spotC (A, E)) _ (z00 HG4.out) Try.underlying49 rfl HSI.out ?_); simp only [PT])
 | ((with_reducible refine sl 26 ?_); (refine z05 rfl 49 (.tmp 6) rfl g6 0 rfl (spotC (A, E)) _ (z00 HG6.out) Try.underlying49 rfl HSI.out ?_); simp only [PT])
 | ((with_reducible refine sl 27 ?_); (refine z3f (A, E) (A, E) true (by simp) rfl (.tmp 25) (.tmp 26) rfl rfl rfl ?_); simp only [PT])
 | (go_at_call 36; (refine (refSameC_true ad1 M c1 vs1 ad2 M c2 vs2 (by rw [HV1.out, HV2.out]) _ (HX1.out.below bup) (HX2.out.below bup) (by omega)).mono ?_); intro e wc4 hr; obtain ⟨rfl, hb__⟩ := hr; have hE__ := cU HB bup hb__; replace HB := ck HB hE__; replace HL := ck HL hE__; replace HX1 := ck HX1 hE__; replace HG4 := ck HG4 hE__; replace HX2 := ck HX2 hE__; replace HG6 := ck HG6 hE__; clear hE__; clear hb__))
  go_ret
  exact ⟨rfl, HB.out⟩
end Go.Proofs.Ytmfplinbbcoahaa
