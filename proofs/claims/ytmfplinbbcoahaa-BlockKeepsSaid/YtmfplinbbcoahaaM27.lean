/-
  Joined by program (merge.py): RGet.
-/
import Derived.Deep.Cut
import Derived.Test.YtmfplinbbcoahaaM6
import Derived.Test.YtmfplinbbcoahaaM26
/-
  Chapter 26: a block read by the document, walked (by genrefget.py).
-/
namespace Go.Proofs.Ytmfplinbbcoahaa
open Go.RowKit Go.Sort
set_option linter.unusedVariables false
set_option linter.unusedSimpArgs false

theorem readO_spot (big : Bool) (r : List UInt8) : (readO big r).2 = (0, 0) ∨ (readO big r).2.2 ≠ 0 := by
  unfold readO readR
  split
  · split
    · exact .inr (by simp)
    · exact .inl rfl
  · rename_i h
    rcases rowsS_spot big r.length r 0 [] with h2 | ⟨h2, _⟩
    · exact absurd h2 h
    · refine .inr ?_
      show (rowsS big r.length r 0 []).2.2.2.2 ≠ 0
      omega
set_option maxRecDepth 100000 in
set_option maxHeartbeats 16000000 in
theorem refGet_short (ad : Option Addr) (n c : Nat) (l : List UInt8) (big : Bool) (w : World) (hs : Bs w ad n c l) (hn : n ≤ 1000000000) (h : n < 12) :
    Calls Try.prog 27 #[.slice ad n c, .bool big] w (GetR (getP big l) w) := by
  have HB := Lib.hid (Below.refl w.heap.size w)
  have HS := Lib.hid hs
  have HBI := Lib.hid blk_info
  have HI : Hid ((Try.prog.info? 49).map (·.size) = some 2) := Lib.hid (by kernel_rfl)
  have hc := hs.le
  have HN := Lib.hid hs.len
  clear hs
  have hi : (n : Int) < 12 := by omega
  have HO : Hid (getP big l = (noneB, 0, 2)) := Lib.hid (by have := HN.out; unfold getP; rw [if_pos (by omega)])
  clear HN
  go_enter Try.func27, Try.ntmps27
  go_wp2_with (first
    | ((with_reducible refine sl 4 ?_); go_must (refine wpL_allocG rfl 27 rfl (.agg #[.int .i64 0, .bool false, .int .u32 0, .int .i64 0, .int .u32 0, .int .i64 0, .int .u64 0, .int .u32 0, .slice none 0 0, .slice none 0 0, .slice none 0 0]) #[.int .i64 0, .bool false, .int .u32 0, .int .i64 0, .int .u32 0, .int .i64 0, .int .u64 0, .int .u32 0, .slice none 0 0, .slice none 0 0, .slice none 0 0] 11 (by kernel_rfl) rfl ?_); intro w1 g4 he__ le_g4 lt_g4 hg__ hb__; have HG4 := Lib.hid hg__; have hE__ := cU HB bup hb__; replace HB := ck HB hE__; clear hE__; clear hg__ hb__ he__; simp only [PT])
    | ((with_reducible refine sl 7 ?_); go_must (refine wpL_allocG rfl 27 rfl (.agg #[.int .i64 0, .bool false, .int .u32 0, .int .i64 0, .int .u32 0, .int .i64 0, .int .u64 0, .int .u32 0, .slice none 0 0, .slice none 0 0, .slice none 0 0]) #[.int .i64 0, .bool false, .int .u32 0, .int .i64 0, .int .u32 0, .int .i64 0, .int .u64 0, .int .u32 0, .slice none 0 0, .slice none 0 0, .slice none 0 0] 11 (by kernel_rfl) rfl ?_); intro w2 g7 he__ le_g7 lt_g7 hg__ hb__; have h47 : g4 < g7 := Nat.lt_of_lt_of_le (lt_of_block (by exact HG4.out)) le_g7; have HG7 := Lib.hid hg__; have hE__ := cU HB bup hb__; replace HB := ck HB hE__; replace HG4 := ck HG4 hE__; clear hE__; clear hg__ hb__ he__; simp only [PT])
    | ((with_reducible show wpList _ _ _ (⟨none, .store _ (.tmp 7) (.tmp 17), _, _, _, _⟩ :: _) _ _); go_must (refine wpL_storeRow rfl 27 (.tmp 7) (.tmp 17) rfl g7 #[.int .i64 0, .bool false, .int .u32 0, .int .i64 0, .int .u32 0, .int .i64 0, .int .u64 0, .int .u32 0, .slice none 0 0, .slice none 0 0, .slice none 0 0] rfl rfl HG7.out HBI.out rfl (all1 _ rfl) ?_); intro w3 hs__ hr__; replace HB := cg HB bup hr__ (by omega); replace HG4 := cg HG4 bup hr__ (by omega); clear HG7; have HG7 := Lib.hid hs__; clear hs__ hr__; simp only [PT])
    | ((with_reducible refine sl 21 ?_); go_must (refine wpL_load rfl 27 (.tmp 7) rfl g7 0 rfl [.int .i64 0, .bool false, .int .u32 0, .int .i64 0, .int .u32 0, .int .i64 0, .int .u64 0, .int .u32 0, .slice none 0 0, .slice none 0 0, .slice none 0 0] _ (range_block HG7.out) Try.underlying27 rfl HBI.out ?_); simp only [PT])
    | ((with_reducible show wpList _ _ _ (⟨none, .store _ (.tmp 4) (.tmp 21), _, _, _, _⟩ :: _) _ _); go_must (refine wpL_storeRow rfl 27 (.tmp 4) (.tmp 21) rfl g4 #[.int .i64 0, .bool false, .int .u32 0, .int .i64 0, .int .u32 0, .int .i64 0, .int .u64 0, .int .u32 0, .slice none 0 0, .slice none 0 0, .slice none 0 0] rfl rfl HG4.out HBI.out rfl (all1 _ rfl) ?_); intro w99 hs__ hr__; replace HB := cg HB bup hr__ (by omega); clear HG4; have HG4 := Lib.hid hs__; clear hs__ hr__; simp only [PT]))
  (try simp only [Exit.inBlock, Exit.then, Exit.noGoto_ret])
  refine bodyPost_cell1x (cs := [.int .i64 0, .bool false, .int .u32 0, .int .i64 0, .int .u32 0, .int .i64 0, .int .u64 0, .int .u32 0, .slice none 0 0, .slice none 0 0, .slice none 0 0]) rfl rfl (range_block HG4.out) Try.underlying27 rfl HBI.out rfl ?_
  exact ⟨noneV, by rw [HO.out]; rfl, by rw [HO.out]; rfl, ⟨own_nil _ _ _ _, OwnOps.nil _ _ _, OwnOps.nil _ _ _⟩, HB.out⟩

set_option maxRecDepth 100000 in
set_option maxHeartbeats 16000000 in
theorem refGet_long (ad : Option Addr) (n c : Nat) (l : List UInt8) (big : Bool) (w : World) (hs : Bs w ad n c l) (hn : n ≤ 1000000000) (h : 12 ≤ n) :
    Calls Try.prog 27 #[.slice ad n c, .bool big] w (GetR (getP big l) w) := by
  have HB := Lib.hid (Below.refl w.heap.size w)
  have HS := Lib.hid hs
  have HBI := Lib.hid blk_info
  have HI : Hid ((Try.prog.info? 49).map (·.size) = some 2) := Lib.hid (by kernel_rfl)
  have hc := hs.le
  have HN := Lib.hid hs.len
  clear hs
  have hi : ¬ (n : Int) < 12 := by omega
  obtain ⟨T, hT⟩ : ∃ x, x = getN ((l.drop 0).take 4) big := ⟨_, rfl⟩
  have bT : T < 4294967296 := by rw [hT]; exact w4_lt big l 0
  have HT := Lib.hid hT
  clear hT
  have eT : IntKind.u32.wrap (T : Int) = (T : Int) := by rw [IntKind.wrap_u32]; omega
  obtain ⟨MB, hMB⟩ : ∃ x, x = (l.drop 8).take 4 := ⟨_, rfl⟩
  have hml : MB.length = 4 := by rw [hMB, List.length_take, List.length_drop]; have := HN.out; omega
  have HMB : Hid ((l.drop 8).take 4 = MB) := Lib.hid hMB.symm
  have HQ : Hid (getP big l = if T = 168627466 then (if MB = [26, 43, 60, 77] then getQ true l T else if MB = [77, 60, 43, 26] then getQ false l T else (noneB, 0, 3)) else getQ big l T) := Lib.hid (by
    have := HN.out
    unfold getP
    rw [if_neg (by omega), show w4 big l 0 = T from HT.out.symm]
    simp only [show w4 true l 8 = getN MB true by rw [hMB]; rfl, show w4 false l 8 = getN MB false by rw [hMB]; rfl, magic_true MB hml, magic_false MB hml])
  clear hMB hml
  go_enter Try.func27, Try.ntmps27
  go_upto_if 28 with (first
    | ((with_reducible refine sl 4 ?_); go_must (refine wpL_allocG rfl 27 rfl (.agg #[.int .i64 0, .bool false, .int .u32 0, .int .i64 0, .int .u32 0, .int .i64 0, .int .u64 0, .int .u32 0, .slice none 0 0, .slice none 0 0, .slice none 0 0]) #[.int .i64 0, .bool false, .int .u32 0, .int .i64 0, .int .u32 0, .int .i64 0, .int .u64 0, .int .u32 0, .slice none 0 0, .slice none 0 0, .slice none 0 0] 11 (by kernel_rfl) rfl ?_); intro w1 g4 he__ le_g4 lt_g4 hg__ hb__; have HG4 := Lib.hid hg__; have hE__ := cU HB bup hb__; replace HB := ck HB hE__; clear hE__; clear hg__ hb__ he__; simp only [PT])
    | ((with_reducible refine sl 7 ?_); go_must (refine wpL_allocG rfl 27 rfl (.agg #[.int .i64 0, .bool false, .int .u32 0, .int .i64 0, .int .u32 0, .int .i64 0, .int .u64 0, .int .u32 0, .slice none 0 0, .slice none 0 0, .slice none 0 0]) #[.int .i64 0, .bool false, .int .u32 0, .int .i64 0, .int .u32 0, .int .i64 0, .int .u64 0, .int .u32 0, .slice none 0 0, .slice none 0 0, .slice none 0 0] 11 (by kernel_rfl) rfl ?_); intro w2 g7 he__ le_g7 lt_g7 hg__ hb__; have h47 : g4 < g7 := Nat.lt_of_lt_of_le (lt_of_block (by exact HG4.out)) le_g7; have HG7 := Lib.hid hg__; have hE__ := cU HB bup hb__; replace HB := ck HB hE__; replace HG4 := ck HG4 hE__; clear hE__; clear hg__ hb__ he__; simp only [PT])
    | ((with_reducible show wpList _ _ _ (⟨none, .store _ (.tmp 7) (.tmp 17), _, _, _, _⟩ :: _) _ _); go_must (refine wpL_storeRow rfl 27 (.tmp 7) (.tmp 17) rfl g7 #[.int .i64 0, .bool false, .int .u32 0, .int .i64 0, .int .u32 0, .int .i64 0, .int .u64 0, .int .u32 0, .slice none 0 0, .slice none 0 0, .slice none 0 0] rfl rfl HG7.out HBI.out rfl (all1 _ rfl) ?_); intro w3 hs__ hr__; replace HB := cg HB bup hr__ (by omega); replace HG4 := cg HG4 bup hr__ (by omega); clear HG7; have HG7 := Lib.hid hs__; clear hs__ hr__; simp only [PT])
    | ((with_reducible refine sl 23 ?_); go_must (refine wpL_sliceG elB rfl (.tmp 22) (some (.const (.int .i64 0))) (some (.const (.int .i64 4))) rfl rfl 0 4 (.inr ⟨.i64, rfl⟩) (.inr ⟨.i64, rfl⟩) (by omega) (by omega) 4 c rfl rfl ?_); intro ad23 had; have HA23 := Lib.hid (Bs.partG HS.out 0 4 4 c (by omega) (by omega) rfl rfl ad23 had ((l.drop 0).take 4) rfl); clear had; simp only [PT])
    | (go_at_call 61; (with_reducible show Calls _ _ #[Value.slice ad23 _ _, _] _ _); go_must (refine (refGet_any ad23 4 c _ big _ (HA23.out.below (HB.out.trans (Below.mono bup HB.out.size)))).mono ?_); intro e w4 hr; rw [← HT.out] at hr; obtain ⟨rfl, hw__⟩ := hr; subst hw__))
  go_cut [1, 8] from 17 (fun s1 s8 wx => ∃ G : Bool, s1 = .bool G ∧ s8 = .int .u32 (T : Int) ∧ Hid (getP big l = getQ G l T) ∧ wx.heap[g4]? = some (.cells #[.int .i64 0, .bool false, .int .u32 0, .int .i64 0, .int .u32 0, .int .i64 0, .int .u64 0, .int .u32 0, .slice none 0 0, .slice none 0 0, .slice none 0 0] 27 (0, 0)) ∧ wx.heap[g7]? = some (.cells #[.int .i64 0, .bool false, .int .u32 0, .int .i64 0, .int .u32 0, .int .i64 0, .int .u64 0, .int .u32 0, .slice none 0 0, .slice none 0 0, .slice none 0 0] 27 (0, 0)) ∧ Below w.heap.size w wx)
  case first =>
    by_cases hT : T = 168627466
    · have hTi : (T : Int) = 168627466 := by omega
      have HTT := Lib.hid hT
      by_cases h1 : MB = [26, 43, 60, 77]
      · have HO : Hid (getP big l = getQ true l T) := Lib.hid (by rw [HQ.out, if_pos hT, if_pos h1])
        subst h1
        clear hT HQ
        have s1 : ((strOf [26, 43, 60, 77]).toList == ([26, 43, 60, 77] : List UInt8)) = true := by rw [strOf_toList]; rfl
        have s3 : ((((strOf [26, 43, 60, 77])[0]'(by decide)).toNat : Int) == 26) = true := by rfl
        go_wp2_with (first
          | ((with_reducible refine sl 30 ?_); go_must (refine wpL_sliceG elB rfl (.tmp 29) (some (.const (.int .i64 8))) (some (.const (.int .i64 12))) rfl rfl 8 12 (.inr ⟨.i64, rfl⟩) (.inr ⟨.i64, rfl⟩) (by omega) (by omega) 4 (c - 8) rfl rfl ?_); intro ad30 had; have HA30 := Lib.hid (Bs.partG HS.out 8 12 4 (c - 8) (by omega) (by omega) rfl rfl ad30 had ((l.drop 8).take 4) rfl); clear had; simp only [PT])
          | ((with_reducible refine sl 31 ?_); go_must (refine wpL_str elB.1 (by kernel_rfl) (by kernel_rfl) rfl (.tmp 30) rfl rfl (HA30.out.below (HB.out.trans (Below.mono bup HB.out.size))) ?_); rw [HMB.out]; simp only [PT]))
        go_meet
        case rel => exact ⟨true, rfl, by rw [HTT.out]; rfl, HO, HG4.out, HG7.out, HB.out⟩
      · by_cases h2 : MB = [77, 60, 43, 26]
        · have HO : Hid (getP big l = getQ false l T) := Lib.hid (by rw [HQ.out, if_pos hT, if_neg h1, if_pos h2])
          subst h2
          clear hT h1 HQ
          have s1 : ((strOf [77, 60, 43, 26]).toList == ([26, 43, 60, 77] : List UInt8)) = false := by rw [strOf_toList]; rfl
          have s2 : ((strOf [77, 60, 43, 26]).toList == ([77, 60, 43, 26] : List UInt8)) = true := by rw [strOf_toList]; rfl
          have s3 : ((((strOf [77, 60, 43, 26])[0]'(by decide)).toNat : Int) == 26) = false := by rfl
          go_wp2_with (first
            | ((with_reducible refine sl 30 ?_); go_must (refine wpL_sliceG elB rfl (.tmp 29) (some (.const (.int .i64 8))) (some (.const (.int .i64 12))) rfl rfl 8 12 (.inr ⟨.i64, rfl⟩) (.inr ⟨.i64, rfl⟩) (by omega) (by omega) 4 (c - 8) rfl rfl ?_); intro ad30 had; have HA30 := Lib.hid (Bs.partG HS.out 8 12 4 (c - 8) (by omega) (by omega) rfl rfl ad30 had ((l.drop 8).take 4) rfl); clear had; simp only [PT])
            | ((with_reducible refine sl 31 ?_); go_must (refine wpL_str elB.1 (by kernel_rfl) (by kernel_rfl) rfl (.tmp 30) rfl rfl (HA30.out.below (HB.out.trans (Below.mono bup HB.out.size))) ?_); rw [HMB.out]; simp only [PT]))
          go_meet
          case rel => exact ⟨false, rfl, by rw [HTT.out]; rfl, HO, HG4.out, HG7.out, HB.out⟩
        · have HO : Hid (getP big l = (noneB, 0, 3)) := Lib.hid (by rw [HQ.out, if_pos hT, if_neg h1, if_neg h2])
          have s1 : ((strOf MB).toList == ([26, 43, 60, 77] : List UInt8)) = false := by rw [strOf_toList]; simpa using h1
          have s2 : ((strOf MB).toList == ([77, 60, 43, 26] : List UInt8)) = false := by rw [strOf_toList]; simpa using h2
          clear hT h1 h2 HQ
          go_wp2_with (first
            | ((with_reducible refine sl 30 ?_); go_must (refine wpL_sliceG elB rfl (.tmp 29) (some (.const (.int .i64 8))) (some (.const (.int .i64 12))) rfl rfl 8 12 (.inr ⟨.i64, rfl⟩) (.inr ⟨.i64, rfl⟩) (by omega) (by omega) 4 (c - 8) rfl rfl ?_); intro ad30 had; have HA30 := Lib.hid (Bs.partG HS.out 8 12 4 (c - 8) (by omega) (by omega) rfl rfl ad30 had ((l.drop 8).take 4) rfl); clear had; simp only [PT])
            | ((with_reducible refine sl 31 ?_); go_must (refine wpL_str elB.1 (by kernel_rfl) (by kernel_rfl) rfl (.tmp 30) rfl rfl (HA30.out.below (HB.out.trans (Below.mono bup HB.out.size))) ?_); rw [HMB.out]; simp only [PT])
            | ((with_reducible refine sl 38 ?_); go_must (refine wpL_load rfl 27 (.tmp 7) rfl g7 0 rfl [.int .i64 0, .bool false, .int .u32 0, .int .i64 0, .int .u32 0, .int .i64 0, .int .u64 0, .int .u32 0, .slice none 0 0, .slice none 0 0, .slice none 0 0] _ (range_block HG7.out) Try.underlying27 rfl HBI.out ?_); simp only [PT])
            | ((with_reducible show wpList _ _ _ (⟨none, .store _ (.tmp 4) (.tmp 38), _, _, _, _⟩ :: _) _ _); go_must (refine wpL_storeRow rfl 27 (.tmp 4) (.tmp 38) rfl g4 #[.int .i64 0, .bool false, .int .u32 0, .int .i64 0, .int .u32 0, .int .i64 0, .int .u64 0, .int .u32 0, .slice none 0 0, .slice none 0 0, .slice none 0 0] rfl rfl HG4.out HBI.out rfl (all1 _ rfl) ?_); intro w99 hs__ hr__; replace HB := cg HB bup hr__ (by omega); clear HG4; have HG4 := Lib.hid hs__; clear hs__ hr__; simp only [PT]))
          (try simp only [Exit.inBlock, Exit.then, Exit.noGoto_ret])
          refine bodyPost_cell1x (cs := [.int .i64 0, .bool false, .int .u32 0, .int .i64 0, .int .u32 0, .int .i64 0, .int .u64 0, .int .u32 0, .slice none 0 0, .slice none 0 0, .slice none 0 0]) rfl rfl (range_block HG4.out) Try.underlying27 rfl HBI.out rfl ?_
          exact ⟨noneV, by rw [HO.out]; rfl, by rw [HO.out]; rfl, ⟨own_nil _ _ _ _, OwnOps.nil _ _ _, OwnOps.nil _ _ _⟩, HB.out⟩
    · have hTi : ¬ (T : Int) = 168627466 := by omega
      have HO : Hid (getP big l = getQ big l T) := Lib.hid (by rw [HQ.out, if_neg hT])
      clear hT HQ
      go_wp2_with fail
      go_meet
      case rel => exact ⟨big, rfl, rfl, HO, HG4.out, HG7.out, HB.out⟩
  case rest =>
    obtain ⟨G, rfl, rfl, HQG, hg4, hg7, hb4⟩ := hcut
    clear HB HQ
    have HB := Lib.hid hb4
    have HG4 := Lib.hid hg4
    have HG7 := Lib.hid hg7
    clear hg4 hg7 hb4
    obtain ⟨N4, hN4⟩ : ∃ x, x = getN ((l.drop 4).take 4) G := ⟨_, rfl⟩
    have bN4 : N4 < 4294967296 := by rw [hN4]; exact w4_lt G l 4
    have HN4 := Lib.hid hN4
    clear hN4
    obtain ⟨NL, hNL⟩ : ∃ x, x = getN ((l.drop (N4 - 4)).take 4) G := ⟨_, rfl⟩
    have bNL : NL < 4294967296 := by rw [hNL]; exact w4_lt G l (N4 - 4)
    have HNL := Lib.hid hNL
    clear hNL
    have eN : IntKind.i64.wrap (N4 : Int) = (N4 : Int) := by rw [IntKind.wrap_i64]; omega
    have eL : IntKind.i64.wrap (NL : Int) = (NL : Int) := by rw [IntKind.wrap_i64]; omega
    have HQ : Hid (getP big l = if N4 < 12 ∨ N4 % 4 ≠ 0 then (noneB, 0, 3) else if 1048576 < N4 then (noneB, 0, 4) else if l.length < N4 then (noneB, 0, 2) else if NL ≠ N4 then (noneB, 0, 3)
        else endP G N4 (openP (kindP T) T ((l.take (N4 - 4)).drop 8) G)) := Lib.hid (by
      rw [HQG.out]
      unfold getQ
      rw [show w4 G l 4 = N4 from HN4.out.symm, show w4 G l (N4 - 4) = NL from HNL.out.symm])
    clear HQG
    obtain ⟨J, hJ⟩ : ∃ J, J = N4 - 4 := ⟨_, rfl⟩
    rw [← hJ] at HNL HQ
    have HJ := Lib.hid hJ
    clear hJ
    by_cases h1 : N4 < 12
    · have h1i : (N4 : Int) < 12 := by omega
      have hb2 : (decide ((N4 : Int) < 12) || (N4 : Int) % 4 != 0) = true := by simp [h1i]
      have HO : Hid (getP big l = (noneB, 0, 3)) := Lib.hid (by rw [HQ.out, if_pos (.inl h1)])
      clear HQ HN
      go_wp2_with (first
        | ((with_reducible refine sl 43 ?_); go_must (refine wpL_sliceG elB rfl (.tmp 42) (some (.const (.int .i64 4))) (some (.const (.int .i64 8))) rfl rfl 4 8 (.inr ⟨.i64, rfl⟩) (.inr ⟨.i64, rfl⟩) (by omega) (by omega) 4 (c - 4) rfl rfl ?_); intro ad43 had; have HA43 := Lib.hid (Bs.partG HS.out 4 8 4 (c - 4) (by omega) (by omega) rfl rfl ad43 had ((l.drop 4).take 4) rfl); clear had; simp only [PT])
        | (go_at_call 61; (with_reducible show Calls _ _ #[Value.slice ad43 _ _, _] _ _); go_must (refine (refGet_any ad43 4 (c - 4) _ G _ (HA43.out.below (HB.out.trans (Below.mono bup HB.out.size)))).mono ?_); intro e w5 hr; rw [← HN4.out] at hr; obtain ⟨rfl, hw__⟩ := hr; subst hw__)
        | ((with_reducible refine sl 54 ?_); go_must (refine wpL_load rfl 27 (.tmp 7) rfl g7 0 rfl [.int .i64 0, .bool false, .int .u32 0, .int .i64 0, .int .u32 0, .int .i64 0, .int .u64 0, .int .u32 0, .slice none 0 0, .slice none 0 0, .slice none 0 0] _ (range_block HG7.out) Try.underlying27 rfl HBI.out ?_); simp only [PT])
        | ((with_reducible show wpList _ _ _ (⟨none, .store _ (.tmp 4) (.tmp 54), _, _, _, _⟩ :: _) _ _); go_must (refine wpL_storeRow rfl 27 (.tmp 4) (.tmp 54) rfl g4 #[.int .i64 0, .bool false, .int .u32 0, .int .i64 0, .int .u32 0, .int .i64 0, .int .u64 0, .int .u32 0, .slice none 0 0, .slice none 0 0, .slice none 0 0] rfl rfl HG4.out HBI.out rfl (all1 _ rfl) ?_); intro w99 hs__ hr__; replace HB := cg HB bup hr__ (by omega); clear HG4; have HG4 := Lib.hid hs__; clear hs__ hr__; simp only [PT]))
      (try simp only [Exit.inBlock, Exit.then, Exit.noGoto_ret])
      refine bodyPost_cell1x (cs := [.int .i64 0, .bool false, .int .u32 0, .int .i64 0, .int .u32 0, .int .i64 0, .int .u64 0, .int .u32 0, .slice none 0 0, .slice none 0 0, .slice none 0 0]) rfl rfl (range_block HG4.out) Try.underlying27 rfl HBI.out rfl ?_
      exact ⟨noneV, by rw [HO.out]; rfl, by rw [HO.out]; rfl, ⟨own_nil _ _ _ _, OwnOps.nil _ _ _, OwnOps.nil _ _ _⟩, HB.out⟩
    have h1i : ¬ (N4 : Int) < 12 := by omega
    by_cases h2 : N4 % 4 = 0
    rotate_left
    · have HO : Hid (getP big l = (noneB, 0, 3)) := Lib.hid (by rw [HQ.out, if_pos (.inr h2)])
      have h2i : ¬ (N4 : Int) % 4 = 0 := by omega
      have hb2 : (decide ((N4 : Int) < 12) || (N4 : Int) % 4 != 0) = true := by simp [h1i, h2i]
      clear HQ HN
      go_wp2_with (first
        | ((with_reducible refine sl 43 ?_); go_must (refine wpL_sliceG elB rfl (.tmp 42) (some (.const (.int .i64 4))) (some (.const (.int .i64 8))) rfl rfl 4 8 (.inr ⟨.i64, rfl⟩) (.inr ⟨.i64, rfl⟩) (by omega) (by omega) 4 (c - 4) rfl rfl ?_); intro ad43 had; have HA43 := Lib.hid (Bs.partG HS.out 4 8 4 (c - 4) (by omega) (by omega) rfl rfl ad43 had ((l.drop 4).take 4) rfl); clear had; simp only [PT])
        | (go_at_call 61; (with_reducible show Calls _ _ #[Value.slice ad43 _ _, _] _ _); go_must (refine (refGet_any ad43 4 (c - 4) _ G _ (HA43.out.below (HB.out.trans (Below.mono bup HB.out.size)))).mono ?_); intro e w5 hr; rw [← HN4.out] at hr; obtain ⟨rfl, hw__⟩ := hr; subst hw__)
        | ((with_reducible refine sl 54 ?_); go_must (refine wpL_load rfl 27 (.tmp 7) rfl g7 0 rfl [.int .i64 0, .bool false, .int .u32 0, .int .i64 0, .int .u32 0, .int .i64 0, .int .u64 0, .int .u32 0, .slice none 0 0, .slice none 0 0, .slice none 0 0] _ (range_block HG7.out) Try.underlying27 rfl HBI.out ?_); simp only [PT])
        | ((with_reducible show wpList _ _ _ (⟨none, .store _ (.tmp 4) (.tmp 54), _, _, _, _⟩ :: _) _ _); go_must (refine wpL_storeRow rfl 27 (.tmp 4) (.tmp 54) rfl g4 #[.int .i64 0, .bool false, .int .u32 0, .int .i64 0, .int .u32 0, .int .i64 0, .int .u64 0, .int .u32 0, .slice none 0 0, .slice none 0 0, .slice none 0 0] rfl rfl HG4.out HBI.out rfl (all1 _ rfl) ?_); intro w99 hs__ hr__; replace HB := cg HB bup hr__ (by omega); clear HG4; have HG4 := Lib.hid hs__; clear hs__ hr__; simp only [PT]))
      (try simp only [Exit.inBlock, Exit.then, Exit.noGoto_ret])
      refine bodyPost_cell1x (cs := [.int .i64 0, .bool false, .int .u32 0, .int .i64 0, .int .u32 0, .int .i64 0, .int .u64 0, .int .u32 0, .slice none 0 0, .slice none 0 0, .slice none 0 0]) rfl rfl (range_block HG4.out) Try.underlying27 rfl HBI.out rfl ?_
      exact ⟨noneV, by rw [HO.out]; rfl, by rw [HO.out]; rfl, ⟨own_nil _ _ _ _, OwnOps.nil _ _ _, OwnOps.nil _ _ _⟩, HB.out⟩
    have h2i : (N4 : Int) % 4 = 0 := by omega
    have hb2 : (decide ((N4 : Int) < 12) || (N4 : Int) % 4 != 0) = false := by simp [h1i, h2i]
    replace HQ := Lib.hid (HQ.out.trans (if_neg (by omega)))
    by_cases h3 : 1048576 < N4
    · have h3i : (1048576 : Int) < (N4 : Int) := by omega
      have HO : Hid (getP big l = (noneB, 0, 4)) := Lib.hid (by rw [HQ.out, if_pos h3])
      clear HQ HN
      go_wp2_with (first
        | ((with_reducible refine sl 43 ?_); go_must (refine wpL_sliceG elB rfl (.tmp 42) (some (.const (.int .i64 4))) (some (.const (.int .i64 8))) rfl rfl 4 8 (.inr ⟨.i64, rfl⟩) (.inr ⟨.i64, rfl⟩) (by omega) (by omega) 4 (c - 4) rfl rfl ?_); intro ad43 had; have HA43 := Lib.hid (Bs.partG HS.out 4 8 4 (c - 4) (by omega) (by omega) rfl rfl ad43 had ((l.drop 4).take 4) rfl); clear had; simp only [PT])
        | (go_at_call 61; (with_reducible show Calls _ _ #[Value.slice ad43 _ _, _] _ _); go_must (refine (refGet_any ad43 4 (c - 4) _ G _ (HA43.out.below (HB.out.trans (Below.mono bup HB.out.size)))).mono ?_); intro e w5 hr; rw [← HN4.out] at hr; obtain ⟨rfl, hw__⟩ := hr; subst hw__)
        | ((with_reducible refine sl 57 ?_); go_must (refine wpL_load rfl 27 (.tmp 7) rfl g7 0 rfl [.int .i64 0, .bool false, .int .u32 0, .int .i64 0, .int .u32 0, .int .i64 0, .int .u64 0, .int .u32 0, .slice none 0 0, .slice none 0 0, .slice none 0 0] _ (range_block HG7.out) Try.underlying27 rfl HBI.out ?_); simp only [PT])
        | ((with_reducible show wpList _ _ _ (⟨none, .store _ (.tmp 4) (.tmp 57), _, _, _, _⟩ :: _) _ _); go_must (refine wpL_storeRow rfl 27 (.tmp 4) (.tmp 57) rfl g4 #[.int .i64 0, .bool false, .int .u32 0, .int .i64 0, .int .u32 0, .int .i64 0, .int .u64 0, .int .u32 0, .slice none 0 0, .slice none 0 0, .slice none 0 0] rfl rfl HG4.out HBI.out rfl (all1 _ rfl) ?_); intro w99 hs__ hr__; replace HB := cg HB bup hr__ (by omega); clear HG4; have HG4 := Lib.hid hs__; clear hs__ hr__; simp only [PT]))
      (try simp only [Exit.inBlock, Exit.then, Exit.noGoto_ret])
      refine bodyPost_cell1x (cs := [.int .i64 0, .bool false, .int .u32 0, .int .i64 0, .int .u32 0, .int .i64 0, .int .u64 0, .int .u32 0, .slice none 0 0, .slice none 0 0, .slice none 0 0]) rfl rfl (range_block HG4.out) Try.underlying27 rfl HBI.out rfl ?_
      exact ⟨noneV, by rw [HO.out]; rfl, by rw [HO.out]; rfl, ⟨own_nil _ _ _ _, OwnOps.nil _ _ _, OwnOps.nil _ _ _⟩, HB.out⟩
    have h3i : ¬ (1048576 : Int) < (N4 : Int) := by omega
    replace HQ := Lib.hid (HQ.out.trans (if_neg h3))
    by_cases h4 : n < N4
    · have h4i : (n : Int) < (N4 : Int) := by omega
      have HO : Hid (getP big l = (noneB, 0, 2)) := Lib.hid (by rw [HQ.out, if_pos (by have := HN.out; omega)])
      clear HQ HN
      go_wp2_with (first
        | ((with_reducible refine sl 43 ?_); go_must (refine wpL_sliceG elB rfl (.tmp 42) (some (.const (.int .i64 4))) (some (.const (.int .i64 8))) rfl rfl 4 8 (.inr ⟨.i64, rfl⟩) (.inr ⟨.i64, rfl⟩) (by omega) (by omega) 4 (c - 4) rfl rfl ?_); intro ad43 had; have HA43 := Lib.hid (Bs.partG HS.out 4 8 4 (c - 4) (by omega) (by omega) rfl rfl ad43 had ((l.drop 4).take 4) rfl); clear had; simp only [PT])
        | (go_at_call 61; (with_reducible show Calls _ _ #[Value.slice ad43 _ _, _] _ _); go_must (refine (refGet_any ad43 4 (c - 4) _ G _ (HA43.out.below (HB.out.trans (Below.mono bup HB.out.size)))).mono ?_); intro e w5 hr; rw [← HN4.out] at hr; obtain ⟨rfl, hw__⟩ := hr; subst hw__)
        | ((with_reducible refine sl 62 ?_); go_must (refine wpL_load rfl 27 (.tmp 7) rfl g7 0 rfl [.int .i64 0, .bool false, .int .u32 0, .int .i64 0, .int .u32 0, .int .i64 0, .int .u64 0, .int .u32 0, .slice none 0 0, .slice none 0 0, .slice none 0 0] _ (range_block HG7.out) Try.underlying27 rfl HBI.out ?_); simp only [PT])
        | ((with_reducible show wpList _ _ _ (⟨none, .store _ (.tmp 4) (.tmp 62), _, _, _, _⟩ :: _) _ _); go_must (refine wpL_storeRow rfl 27 (.tmp 4) (.tmp 62) rfl g4 #[.int .i64 0, .bool false, .int .u32 0, .int .i64 0, .int .u32 0, .int .i64 0, .int .u64 0, .int .u32 0, .slice none 0 0, .slice none 0 0, .slice none 0 0] rfl rfl HG4.out HBI.out rfl (all1 _ rfl) ?_); intro w99 hs__ hr__; replace HB := cg HB bup hr__ (by omega); clear HG4; have HG4 := Lib.hid hs__; clear hs__ hr__; simp only [PT]))
      (try simp only [Exit.inBlock, Exit.then, Exit.noGoto_ret])
      refine bodyPost_cell1x (cs := [.int .i64 0, .bool false, .int .u32 0, .int .i64 0, .int .u32 0, .int .i64 0, .int .u64 0, .int .u32 0, .slice none 0 0, .slice none 0 0, .slice none 0 0]) rfl rfl (range_block HG4.out) Try.underlying27 rfl HBI.out rfl ?_
      exact ⟨noneV, by rw [HO.out]; rfl, by rw [HO.out]; rfl, ⟨own_nil _ _ _ _, OwnOps.nil _ _ _, OwnOps.nil _ _ _⟩, HB.out⟩
    have h4i : ¬ (n : Int) < (N4 : Int) := by omega
    replace HQ := Lib.hid (HQ.out.trans (if_neg (by have := HN.out; omega)))
    have j1 : J + 4 ≤ N4 := by have := HJ.out; omega
    have j2 : N4 ≤ J + 4 := by have := HJ.out; omega
    have j3 : (N4 : Int) - 4 = (J : Int) := by omega
    have j4 : IntKind.i64.wrap ((N4 : Int) - 4) = (J : Int) := by rw [IntKind.wrap_i64]; omega
    have j5 : IntKind.i64.wrap (J : Int) = (J : Int) := by rw [IntKind.wrap_i64]; omega
    have HNJ : Hid (N4 - J = 4) := Lib.hid (by omega)
    by_cases h5 : NL = N4
    rotate_left
    · have h5i : ¬ (NL : Int) = (N4 : Int) := by omega
      have HO : Hid (getP big l = (noneB, 0, 3)) := Lib.hid (by rw [HQ.out, if_pos h5])
      clear HQ HN
      go_wp2_with (first
        | ((with_reducible refine sl 43 ?_); go_must (refine wpL_sliceG elB rfl (.tmp 42) (some (.const (.int .i64 4))) (some (.const (.int .i64 8))) rfl rfl 4 8 (.inr ⟨.i64, rfl⟩) (.inr ⟨.i64, rfl⟩) (by omega) (by omega) 4 (c - 4) rfl rfl ?_); intro ad43 had; have HA43 := Lib.hid (Bs.partG HS.out 4 8 4 (c - 4) (by omega) (by omega) rfl rfl ad43 had ((l.drop 4).take 4) rfl); clear had; simp only [PT])
        | (go_at_call 61; (with_reducible show Calls _ _ #[Value.slice ad43 _ _, _] _ _); go_must (refine (refGet_any ad43 4 (c - 4) _ G _ (HA43.out.below (HB.out.trans (Below.mono bup HB.out.size)))).mono ?_); intro e w5 hr; rw [← HN4.out] at hr; obtain ⟨rfl, hw__⟩ := hr; subst hw__)
        | ((with_reducible refine sl 67 ?_); go_must (refine wpL_sliceG elB rfl (.tmp 63) (some (.tmp 65)) (some (.tmp 66)) rfl rfl J N4 (.inr ⟨.i64, rfl⟩) (.inr ⟨.i64, rfl⟩) (by omega) (by omega) 4 (c - J) HNJ.out rfl ?_); intro ad67 had; have HA67 := Lib.hid (Bs.partG HS.out J N4 4 (c - J) (by omega) (by omega) HNJ.out rfl ad67 had ((l.drop J).take 4) rfl); clear had; simp only [PT])
        | (go_at_call 61; (with_reducible show Calls _ _ #[Value.slice ad67 _ _, _] _ _); go_must (refine (refGet_any ad67 4 (c - J) _ G _ (HA67.out.below (HB.out.trans (Below.mono bup HB.out.size)))).mono ?_); intro e w6 hr; rw [← HNL.out] at hr; obtain ⟨rfl, hw__⟩ := hr; subst hw__)
        | ((with_reducible refine sl 73 ?_); go_must (refine wpL_load rfl 27 (.tmp 7) rfl g7 0 rfl [.int .i64 0, .bool false, .int .u32 0, .int .i64 0, .int .u32 0, .int .i64 0, .int .u64 0, .int .u32 0, .slice none 0 0, .slice none 0 0, .slice none 0 0] _ (range_block HG7.out) Try.underlying27 rfl HBI.out ?_); simp only [PT])
        | ((with_reducible show wpList _ _ _ (⟨none, .store _ (.tmp 4) (.tmp 73), _, _, _, _⟩ :: _) _ _); go_must (refine wpL_storeRow rfl 27 (.tmp 4) (.tmp 73) rfl g4 #[.int .i64 0, .bool false, .int .u32 0, .int .i64 0, .int .u32 0, .int .i64 0, .int .u64 0, .int .u32 0, .slice none 0 0, .slice none 0 0, .slice none 0 0] rfl rfl HG4.out HBI.out rfl (all1 _ rfl) ?_); intro w99 hs__ hr__; replace HB := cg HB bup hr__ (by omega); clear HG4; have HG4 := Lib.hid hs__; clear hs__ hr__; simp only [PT]))
      (try simp only [Exit.inBlock, Exit.then, Exit.noGoto_ret])
      refine bodyPost_cell1x (cs := [.int .i64 0, .bool false, .int .u32 0, .int .i64 0, .int .u32 0, .int .i64 0, .int .u64 0, .int .u32 0, .slice none 0 0, .slice none 0 0, .slice none 0 0]) rfl rfl (range_block HG4.out) Try.underlying27 rfl HBI.out rfl ?_
      exact ⟨noneV, by rw [HO.out]; rfl, by rw [HO.out]; rfl, ⟨own_nil _ _ _ _, OwnOps.nil _ _ _, OwnOps.nil _ _ _⟩, HB.out⟩
    replace HQ := Lib.hid (HQ.out.trans (if_neg (fun e => e h5)))
    have HNE : Hid (N4 = getN ((l.drop J).take 4) G) := Lib.hid (by rw [← h5]; exact HNL.out)
    clear h5 HNL eL bNL
    obtain ⟨KD, hKD⟩ : ∃ K, K = kindP T := ⟨_, rfl⟩
    obtain ⟨TT, hTT⟩ : ∃ x, x = if KD = 7 then T else 0 := ⟨_, rfl⟩
    obtain ⟨D, hD⟩ : ∃ D, D = (l.drop 8).take (J - 8) := ⟨_, rfl⟩
    obtain ⟨O, hO⟩ : ∃ O, O = openP KD T D G := ⟨_, rfl⟩
    have hDe : (l.take J).drop 8 = D := by rw [hD, List.drop_take]
    have hj8 : 8 ≤ J := by omega
    have HOPN : Hid (∀ ad n c w, Bs w ad n c D → n ≤ 1048576 → Calls Try.prog 62 #[.agg #[.int .i64 KD, .bool false, .int .u32 ((TT : Nat) : Int), .int .i64 0, .int .u32 0, .int .i64 0, .int .u64 0, .int .u32 0, .slice none 0 0, .slice none 0 0, .slice none 0 0], .slice ad n c, .bool G] w (OpenR ad n c D O w)) := Lib.hid (fun ad n c w hs hn => by
      rw [hO, hTT, hKD]
      exact refOpen_any T ad n c D G w hs hn)
    have HK : Hid (∀ w, Calls Try.prog 51 #[.int .u32 (T : Int)] w fun e w' => e = .returned (.int .i64 KD) ∧ Below w.heap.size w w') := Lib.hid (fun w => by rw [hKD]; exact refKind_any T bT w)
    rw [hDe, ← hKD, ← hO] at HQ
    have HTT := Lib.hid hTT
    have HORL : Hid (∀ x r, O = some (x, r) → r.length ≤ 1000000000) := Lib.hid (fun x r h => by
      have h1 := open_rest (hO.symm.trans h)
      rw [hD, List.length_take] at h1
      omega)
    have HD := Lib.hid hD.symm
    clear hKD hTT hD hO hDe
    go_upto_if 79 with (first
      | ((with_reducible refine sl 43 ?_); go_must (refine wpL_sliceG elB rfl (.tmp 42) (some (.const (.int .i64 4))) (some (.const (.int .i64 8))) rfl rfl 4 8 (.inr ⟨.i64, rfl⟩) (.inr ⟨.i64, rfl⟩) (by omega) (by omega) 4 (c - 4) rfl rfl ?_); intro ad43 had; have HA43 := Lib.hid (Bs.partG HS.out 4 8 4 (c - 4) (by omega) (by omega) rfl rfl ad43 had ((l.drop 4).take 4) rfl); clear had; simp only [PT])
      | (go_at_call 61; (with_reducible show Calls _ _ #[Value.slice ad43 _ _, _] _ _); go_must (refine (refGet_any ad43 4 (c - 4) _ G _ (HA43.out.below (HB.out.trans (Below.mono bup HB.out.size)))).mono ?_); intro e w5 hr; rw [← HN4.out] at hr; obtain ⟨rfl, hw__⟩ := hr; subst hw__)
      | ((with_reducible refine sl 67 ?_); go_must (refine wpL_sliceG elB rfl (.tmp 63) (some (.tmp 65)) (some (.tmp 66)) rfl rfl J N4 (.inr ⟨.i64, rfl⟩) (.inr ⟨.i64, rfl⟩) (by omega) (by omega) 4 (c - J) HNJ.out rfl ?_); intro ad67 had; have HA67 := Lib.hid (Bs.partG HS.out J N4 4 (c - J) (by omega) (by omega) HNJ.out rfl ad67 had ((l.drop J).take 4) rfl); clear had; simp only [PT])
      | (go_at_call 61; (with_reducible show Calls _ _ #[Value.slice ad67 _ _, _] _ _); go_must (refine (refGet_any ad67 4 (c - J) _ G _ (HA67.out.below (HB.out.trans (Below.mono bup HB.out.size)))).mono ?_); intro e w6 hr; rw [← HNE.out] at hr; obtain ⟨rfl, hw__⟩ := hr; subst hw__)
      | (go_at_call 51; go_must (refine (HK.out _).mono ?_); intro e w7 hr; obtain ⟨rfl, hb__⟩ := hr; have hE__ := cU HB bup hb__; replace HB := ck HB hE__; replace HG4 := ck HG4 hE__; replace HG7 := ck HG7 hE__; clear hE__; clear hb__)
      | ((with_reducible refine sl 11 ?_); go_must (refine wpL_allocG rfl 27 rfl (.agg #[.int .i64 0, .bool false, .int .u32 0, .int .i64 0, .int .u32 0, .int .i64 0, .int .u64 0, .int .u32 0, .slice none 0 0, .slice none 0 0, .slice none 0 0]) #[.int .i64 0, .bool false, .int .u32 0, .int .i64 0, .int .u32 0, .int .i64 0, .int .u64 0, .int .u32 0, .slice none 0 0, .slice none 0 0, .slice none 0 0] 11 (by kernel_rfl) rfl ?_); intro w8 g11 he__ le_g11 lt_g11 hg__ hb__; have h411 : g4 < g11 := Nat.lt_of_lt_of_le (lt_of_block (by exact HG4.out)) le_g11; have h711 : g7 < g11 := Nat.lt_of_lt_of_le (lt_of_block (by exact HG7.out)) le_g11; have HG11 := Lib.hid hg__; have hE__ := cU HB bup hb__; replace HB := ck HB hE__; replace HG4 := ck HG4 hE__; replace HG7 := ck HG7 hE__; clear hE__; clear hg__ hb__ he__; simp only [PT])
      | ((with_reducible show wpList _ _ _ (⟨none, .store _ (.tmp 11) (.tmp 76), _, _, _, _⟩ :: _) _ _); go_must (refine wpL_storeRow rfl 27 (.tmp 11) (.tmp 76) rfl g11 #[.int .i64 KD, .bool false, .int .u32 0, .int .i64 0, .int .u32 0, .int .i64 0, .int .u64 0, .int .u32 0, .slice none 0 0, .slice none 0 0, .slice none 0 0] rfl rfl HG11.out HBI.out rfl (all1 _ rfl) ?_); intro w9 hs__ hr__; replace HB := cg HB bup hr__ (by omega); replace HG4 := cg HG4 bup hr__ (by omega); replace HG7 := cg HG7 bup hr__ (by omega); clear HG11; have HG11 := Lib.hid hs__; clear hs__ hr__; simp only [PT])
      | ((with_reducible refine sl 78 ?_); go_must (refine wpL_loadF rfl 3 (.tmp 77) rfl g11 0 rfl (.int .i64 KD) HG11.out rfl Try.underlying3 rfl ?_); simp only [PT]))
    go_cut [] from 17 (fun wx => wx.heap[g11]? = some (.cells #[.int .i64 KD, .bool false, .int .u32 ((TT : Nat) : Int), .int .i64 0, .int .u32 0, .int .i64 0, .int .u64 0, .int .u32 0, .slice none 0 0, .slice none 0 0, .slice none 0 0] 27 (0, 0)) ∧ wx.heap[g4]? = some (.cells #[.int .i64 0, .bool false, .int .u32 0, .int .i64 0, .int .u32 0, .int .i64 0, .int .u64 0, .int .u32 0, .slice none 0 0, .slice none 0 0, .slice none 0 0] 27 (0, 0)) ∧ wx.heap[g7]? = some (.cells #[.int .i64 0, .bool false, .int .u32 0, .int .i64 0, .int .u32 0, .int .i64 0, .int .u64 0, .int .u32 0, .slice none 0 0, .slice none 0 0, .slice none 0 0] 27 (0, 0)) ∧ Below w.heap.size w wx)
    case first =>
      by_cases hk7 : KD = 7
      · have HK7 := Lib.hid hk7
        go_wp2_with (first
          | ((with_reducible show wpList _ _ _ (⟨none, .store _ (.tmp 81) (.tmp 80), _, _, _, _⟩ :: _) _ _); go_must (refine wpL_storeF rfl 22 (.tmp 81) (.tmp 80) rfl g11 2 (.int .u32 (T : Int)) rfl rfl rfl HG11.out (by simp) (by kernel_rfl) #[.int .i64 KD, .bool false, .int .u32 (T : Int), .int .i64 0, .int .u32 0, .int .i64 0, .int .u64 0, .int .u32 0, .slice none 0 0, .slice none 0 0, .slice none 0 0] rfl ?_); intro w10 hs__ hr__; replace HB := cg HB bup hr__ (by omega); replace HG4 := cg HG4 bup hr__ (by omega); replace HG7 := cg HG7 bup hr__ (by omega); clear HG11; have HG11 := Lib.hid hs__; clear hs__ hr__; simp only [PT]))
        go_meet
        case rel => exact ⟨by rw [HTT.out, if_pos HK7.out]; exact HG11.out, HG4.out, HG7.out, HB.out⟩
      · have HK7 := Lib.hid hk7
        go_wp2_with fail
        go_meet
        case rel => exact ⟨by rw [HTT.out, if_neg HK7.out]; exact HG11.out, HG4.out, HG7.out, HB.out⟩
    case rest =>
      obtain ⟨hg11, hg4, hg7, hb4⟩ := hcut
      clear HB HG4 HG7 HG11
      have HB := Lib.hid hb4
      have HG4 := Lib.hid hg4
      have HG7 := Lib.hid hg7
      have HG11 := Lib.hid hg11
      clear hg11 hg4 hg7 hb4
      cases O with
      | none =>
        have HO : Hid (getP big l = (noneB, 0, 3)) := Lib.hid HQ.out
        clear HQ HN
        go_upto_region 22 with fail
        go_cut [14] from 17 (fun s14 wx => s14 = .bool false ∧ wx.heap[g4]? = some (.cells #[.int .i64 0, .bool false, .int .u32 0, .int .i64 0, .int .u32 0, .int .i64 0, .int .u64 0, .int .u32 0, .slice none 0 0, .slice none 0 0, .slice none 0 0] 27 (0, 0)) ∧ wx.heap[g7]? = some (.cells #[.int .i64 0, .bool false, .int .u32 0, .int .i64 0, .int .u32 0, .int .i64 0, .int .u64 0, .int .u32 0, .slice none 0 0, .slice none 0 0, .slice none 0 0] 27 (0, 0)) ∧ Below w.heap.size w wx)
        case first =>
          refine wp_region_held_drew (S := fun u => True) (by kernel_rfl) ?_ (fun hHeld => ?_)
          focus (exact trivial)
          refine tk 1 (oi := ⟨some 84, _, _, _, _, _⟩) (v := ?_) rfl (by kernel_rfl) (.inl ⟨by rfl, ?_⟩) hHeld ?_; rotate_left; focus (intro w hSw; (try dsimp only at hSw); go_simp; try with_reducible rfl)
          simp only [PT]
          refine tk 2 (oi := ⟨some 85, _, _, _, _, _⟩) (v := ?_) rfl (by kernel_rfl) (.inl ⟨by rfl, ?_⟩) hHeld ?_; rotate_left; focus (intro w hSw; (try dsimp only at hSw); go_simp; try with_reducible rfl)
          simp only [PT]
          refine' tk 3 (oi := ⟨some 86, _, _, _, _, _⟩) (v := (.int .i64 (J : Int))) rfl (by kernel_rfl) (.inl ⟨by rfl, ?_⟩) hHeld ?_; focus (intro w hSw; (try dsimp only at hSw); go_simp; first | done | rfl | (simp [*]; done) | (simp [*]; omega))
          simp only [PT]
          refine' tk 4 (oi := ⟨some 87, _, _, _, _, _⟩) (v := _) rfl (by kernel_rfl) (yields_slice elB rfl (.tmp 84) (some (.const (.int .i64 8))) (some (.tmp 86)) rfl rfl 8 J (.inr ⟨.i64, rfl⟩) (.inr ⟨.i64, rfl⟩) hj8 (by omega)) hHeld ?_
          simp only [PT]
          refine tk 5 (oi := ⟨some 88, _, _, _, _, _⟩) (v := ?_) rfl (by kernel_rfl) (.inl ⟨by rfl, ?_⟩) hHeld ?_; rotate_left; focus (intro w hSw; (try dsimp only at hSw); go_simp; try with_reducible rfl)
          simp only [PT]
          refine wpAnyH_ready (rs := [0, 11]) (by kernel_rfl) (by simp) ?_
          refine (AllReadyH.cons (o := ⟨some 83, _, _, _, _, _⟩) rfl (fun K hK => ?_) (AllReadyH.cons (o := ⟨some 12, _, _, _, _, _⟩) rfl (fun K hK => ?_) AllReadyH.nil))
          (go_must (refine step_loadR rfl 27 (.tmp 11) rfl g11 0 rfl [.int .i64 KD, .bool false, .int .u32 ((TT : Nat) : Int), .int .i64 0, .int .u32 0, .int .i64 0, .int .u64 0, .int .u32 0, .slice none 0 0, .slice none 0 0, .slice none 0 0] _ (by exact range_block HG11.out) Try.underlying27 rfl HBI.out ?_))
          refine hK.out _ _ ?_ (fun hHeld => ?_)
          focus (exact trivial)
          clear hK K
          try simp only [PT]
          refine wpAnyH_ready (rs := [6, 11]) (by kernel_rfl) (by simp) ?_
          refine (AllReadyH.cons (o := ⟨some 89, _, _, _, _, _⟩) rfl (fun K hK => ?_) (AllReadyH.cons (o := ⟨some 12, _, _, _, _, _⟩) rfl (fun K hK => ?_) AllReadyH.nil))
          focus (go_simp; have HAB : ∀ w0, Bs w0 ad n c l → Bs w0 (subAd ad c 8 1) (J - 8) (c - 8) D := fun w0 h0 => (by rw [← HD.out]; exact Bs.part h0 8 J hj8 (by omega)); go_must (refine (HOPN.out _ (J - 8) (c - 8) _ (HAB _ (HS.out.below (HB.out.trans (Below.mono bup HB.out.size)))) (by omega)).mono ?_); intro e w11 hr; obtain ⟨v, rad, rn, rc, ok, rfl, hok, hgood, hb__⟩ := hr; have hok2 : ok = false := hok; subst hok2; (first | (have hE__ := cU HB bup hb__; replace HB := ck HB hE__; replace HG4 := ck HG4 hE__; replace HG7 := ck HG7 hE__; replace HG11 := ck HG11 hE__; replace HG12 := ck HG12 hE__; clear hE__) | (have hE__ := cU HB bup hb__; replace HB := ck HB hE__; replace HG4 := ck HG4 hE__; replace HG7 := ck HG7 hE__; replace HG11 := ck HG11 hE__; clear hE__)); clear hb__ hok hgood; go_wp2_with fail)
          refine hK.out _ _ ?_ (fun hHeld => ?_)
          focus (exact trivial)
          clear hK K
          try simp only [PT]
          refine tk 7 (oi := ⟨some 82, _, _, _, _, _⟩) (v := ?_) rfl (by kernel_rfl) (.inl ⟨by rfl, ?_⟩) hHeld ?_; rotate_left; focus (intro w hSw; (try dsimp only at hSw); go_simp; try with_reducible rfl)
          simp only [PT]
          refine tk 8 (oi := ⟨some 90, _, _, _, _, _⟩) (v := ?_) rfl (by kernel_rfl) (.inl ⟨by rfl, ?_⟩) hHeld ?_; rotate_left; focus (intro w hSw; (try dsimp only at hSw); go_simp; try with_reducible rfl)
          simp only [PT]
          refine tk 9 (oi := ⟨some 91, _, _, _, _, _⟩) (v := ?_) rfl (by kernel_rfl) (.inl ⟨by rfl, ?_⟩) hHeld ?_; rotate_left; focus (intro w hSw; (try dsimp only at hSw); go_simp; try with_reducible rfl)
          simp only [PT]
          refine tk 10 (oi := ⟨some 92, _, _, _, _, _⟩) (v := ?_) rfl (by kernel_rfl) (.inl ⟨by rfl, ?_⟩) hHeld ?_; rotate_left; focus (intro w hSw; (try dsimp only at hSw); go_simp; try with_reducible rfl)
          simp only [PT]
          refine wpAnyH_ready (rs := [11]) (by kernel_rfl) (by simp) ?_
          refine (AllReadyH.cons (o := ⟨some 12, _, _, _, _, _⟩) rfl (fun K hK => ?_) AllReadyH.nil)
          (go_must (refine step_allocG rfl 27 rfl (.agg #[.int .i64 0, .bool false, .int .u32 0, .int .i64 0, .int .u32 0, .int .i64 0, .int .u64 0, .int .u32 0, .slice none 0 0, .slice none 0 0, .slice none 0 0]) #[.int .i64 0, .bool false, .int .u32 0, .int .i64 0, .int .u32 0, .int .i64 0, .int .u64 0, .int .u32 0, .slice none 0 0, .slice none 0 0, .slice none 0 0] 11 (by kernel_rfl) rfl ?_); intro w12 g12 le_g12 lt_g12 hg__ hb__; have l412 : g4 < g12 := Nat.lt_of_lt_of_le (lt_of_block (by exact HG4.out)) le_g12; have l712 : g7 < g12 := Nat.lt_of_lt_of_le (lt_of_block (by exact HG7.out)) le_g12; have HG12 := Lib.hid hg__; (first | (have HAP := Lib.hid (OwnBlk.apart_lt HX.out le_g12); have hE__ := cU HB bup hb__; replace HB := ck HB hE__; replace HG4 := ck HG4 hE__; replace HG7 := ck HG7 hE__; replace HG11 := ck HG11 hE__; replace HX := ck HX hE__; clear hE__) | (have hE__ := cU HB bup hb__; replace HB := ck HB hE__; replace HG4 := ck HG4 hE__; replace HG7 := ck HG7 hE__; replace HG11 := ck HG11 hE__; clear hE__)); clear hg__ hb__)
          refine hK.out _ _ ?_ (fun hHeld => ?_)
          focus (exact trivial)
          clear hK K
          try simp only [PT]
          refine wpAnyH_ready (rs := [12]) (by kernel_rfl) (by simp) ?_
          refine (AllReadyH.cons (o := ⟨none, _, _, _, _, _⟩) rfl (fun K hK => ?_) AllReadyH.nil)
          (go_must (refine step_storeR rfl 27 (.tmp 12) (.tmp 90) rfl g12 v.cells.toArray rfl rfl HG12.out HBI.out rfl (bcells_all v) ?_); intro w13 hs__ hr__; replace HB := cg HB bup hr__ (by omega); replace HG4 := cg HG4 bup hr__ (by omega); replace HG7 := cg HG7 bup hr__ (by omega); clear HG12; have HG12 := Lib.hid hs__; clear hs__ hr__)
          refine hK.out _ _ ?_ (fun hHeld => ?_)
          focus (exact trivial)
          clear hK K
          try simp only [PT]
          refine tk 13 (oi := ⟨some 13, _, _, _, _, _⟩) (v := ?_) rfl (by kernel_rfl) (.inl ⟨by rfl, ?_⟩) hHeld ?_; rotate_left; focus (intro w hSw; (try dsimp only at hSw); go_simp; try with_reducible rfl)
          simp only [PT]
          refine tk 14 (oi := ⟨some 14, _, _, _, _, _⟩) (v := ?_) rfl (by kernel_rfl) (.inl ⟨by rfl, ?_⟩) hHeld ?_; rotate_left; focus (intro w hSw; (try dsimp only at hSw); go_simp; try with_reducible rfl)
          simp only [PT]
          refine wpAnyH_done (by kernel_rfl) ?_ _
          rotate_left
          (go_must (refine step_allocG rfl 27 rfl (.agg #[.int .i64 0, .bool false, .int .u32 0, .int .i64 0, .int .u32 0, .int .i64 0, .int .u64 0, .int .u32 0, .slice none 0 0, .slice none 0 0, .slice none 0 0]) #[.int .i64 0, .bool false, .int .u32 0, .int .i64 0, .int .u32 0, .int .i64 0, .int .u64 0, .int .u32 0, .slice none 0 0, .slice none 0 0, .slice none 0 0] 11 (by kernel_rfl) rfl ?_); intro w12 g12 le_g12 lt_g12 hg__ hb__; have l412 : g4 < g12 := Nat.lt_of_lt_of_le (lt_of_block (by exact HG4.out)) le_g12; have l712 : g7 < g12 := Nat.lt_of_lt_of_le (lt_of_block (by exact HG7.out)) le_g12; have HG12 := Lib.hid hg__; (first | (have HAP := Lib.hid (OwnBlk.apart_lt HX.out le_g12); have hE__ := cU HB bup hb__; replace HB := ck HB hE__; replace HG4 := ck HG4 hE__; replace HG7 := ck HG7 hE__; replace HG11 := ck HG11 hE__; replace HX := ck HX hE__; clear hE__) | (have hE__ := cU HB bup hb__; replace HB := ck HB hE__; replace HG4 := ck HG4 hE__; replace HG7 := ck HG7 hE__; replace HG11 := ck HG11 hE__; clear hE__)); clear hg__ hb__)
          refine hK.out _ _ ?_ (fun hHeld => ?_)
          focus (exact trivial)
          clear hK K
          try simp only [PT]
          refine wpAnyH_ready (rs := [6]) (by kernel_rfl) (by simp) ?_
          refine (AllReadyH.cons (o := ⟨some 89, _, _, _, _, _⟩) rfl (fun K hK => ?_) AllReadyH.nil)
          focus (go_simp; have HAB : ∀ w0, Bs w0 ad n c l → Bs w0 (subAd ad c 8 1) (J - 8) (c - 8) D := fun w0 h0 => (by rw [← HD.out]; exact Bs.part h0 8 J hj8 (by omega)); go_must (refine (HOPN.out _ (J - 8) (c - 8) _ (HAB _ (HS.out.below (HB.out.trans (Below.mono bup HB.out.size)))) (by omega)).mono ?_); intro e w11 hr; obtain ⟨v, rad, rn, rc, ok, rfl, hok, hgood, hb__⟩ := hr; have hok2 : ok = false := hok; subst hok2; (first | (have hE__ := cU HB bup hb__; replace HB := ck HB hE__; replace HG4 := ck HG4 hE__; replace HG7 := ck HG7 hE__; replace HG11 := ck HG11 hE__; replace HG12 := ck HG12 hE__; clear hE__) | (have hE__ := cU HB bup hb__; replace HB := ck HB hE__; replace HG4 := ck HG4 hE__; replace HG7 := ck HG7 hE__; replace HG11 := ck HG11 hE__; clear hE__)); clear hb__ hok hgood; go_wp2_with fail)
          refine hK.out _ _ ?_ (fun hHeld => ?_)
          focus (exact trivial)
          clear hK K
          try simp only [PT]
          refine tk 7 (oi := ⟨some 82, _, _, _, _, _⟩) (v := ?_) rfl (by kernel_rfl) (.inl ⟨by rfl, ?_⟩) hHeld ?_; rotate_left; focus (intro w hSw; (try dsimp only at hSw); go_simp; try with_reducible rfl)
          simp only [PT]
          refine tk 8 (oi := ⟨some 90, _, _, _, _, _⟩) (v := ?_) rfl (by kernel_rfl) (.inl ⟨by rfl, ?_⟩) hHeld ?_; rotate_left; focus (intro w hSw; (try dsimp only at hSw); go_simp; try with_reducible rfl)
          simp only [PT]
          refine tk 9 (oi := ⟨some 91, _, _, _, _, _⟩) (v := ?_) rfl (by kernel_rfl) (.inl ⟨by rfl, ?_⟩) hHeld ?_; rotate_left; focus (intro w hSw; (try dsimp only at hSw); go_simp; try with_reducible rfl)
          simp only [PT]
          refine tk 10 (oi := ⟨some 92, _, _, _, _, _⟩) (v := ?_) rfl (by kernel_rfl) (.inl ⟨by rfl, ?_⟩) hHeld ?_; rotate_left; focus (intro w hSw; (try dsimp only at hSw); go_simp; try with_reducible rfl)
          simp only [PT]
          refine wpAnyH_ready (rs := [12]) (by kernel_rfl) (by simp) ?_
          refine (AllReadyH.cons (o := ⟨none, _, _, _, _, _⟩) rfl (fun K hK => ?_) AllReadyH.nil)
          (go_must (refine step_storeR rfl 27 (.tmp 12) (.tmp 90) rfl g12 v.cells.toArray rfl rfl HG12.out HBI.out rfl (bcells_all v) ?_); intro w13 hs__ hr__; replace HB := cg HB bup hr__ (by omega); replace HG4 := cg HG4 bup hr__ (by omega); replace HG7 := cg HG7 bup hr__ (by omega); clear HG12; have HG12 := Lib.hid hs__; clear hs__ hr__)
          refine hK.out _ _ ?_ (fun hHeld => ?_)
          focus (exact trivial)
          clear hK K
          try simp only [PT]
          refine tk 13 (oi := ⟨some 13, _, _, _, _, _⟩) (v := ?_) rfl (by kernel_rfl) (.inl ⟨by rfl, ?_⟩) hHeld ?_; rotate_left; focus (intro w hSw; (try dsimp only at hSw); go_simp; try with_reducible rfl)
          simp only [PT]
          refine tk 14 (oi := ⟨some 14, _, _, _, _, _⟩) (v := ?_) rfl (by kernel_rfl) (.inl ⟨by rfl, ?_⟩) hHeld ?_; rotate_left; focus (intro w hSw; (try dsimp only at hSw); go_simp; try with_reducible rfl)
          simp only [PT]
          refine wpAnyH_done (by kernel_rfl) ?_ _
          rotate_left
          (go_must (refine step_allocG rfl 27 rfl (.agg #[.int .i64 0, .bool false, .int .u32 0, .int .i64 0, .int .u32 0, .int .i64 0, .int .u64 0, .int .u32 0, .slice none 0 0, .slice none 0 0, .slice none 0 0]) #[.int .i64 0, .bool false, .int .u32 0, .int .i64 0, .int .u32 0, .int .i64 0, .int .u64 0, .int .u32 0, .slice none 0 0, .slice none 0 0, .slice none 0 0] 11 (by kernel_rfl) rfl ?_); intro w12 g12 le_g12 lt_g12 hg__ hb__; have l412 : g4 < g12 := Nat.lt_of_lt_of_le (lt_of_block (by exact HG4.out)) le_g12; have l712 : g7 < g12 := Nat.lt_of_lt_of_le (lt_of_block (by exact HG7.out)) le_g12; have HG12 := Lib.hid hg__; (first | (have HAP := Lib.hid (OwnBlk.apart_lt HX.out le_g12); have hE__ := cU HB bup hb__; replace HB := ck HB hE__; replace HG4 := ck HG4 hE__; replace HG7 := ck HG7 hE__; replace HG11 := ck HG11 hE__; replace HX := ck HX hE__; clear hE__) | (have hE__ := cU HB bup hb__; replace HB := ck HB hE__; replace HG4 := ck HG4 hE__; replace HG7 := ck HG7 hE__; replace HG11 := ck HG11 hE__; clear hE__)); clear hg__ hb__)
          refine hK.out _ _ ?_ (fun hHeld => ?_)
          focus (exact trivial)
          clear hK K
          try simp only [PT]
          refine wpAnyH_ready (rs := [0]) (by kernel_rfl) (by simp) ?_
          refine (AllReadyH.cons (o := ⟨some 83, _, _, _, _, _⟩) rfl (fun K hK => ?_) AllReadyH.nil)
          (go_must (refine step_loadR rfl 27 (.tmp 11) rfl g11 0 rfl [.int .i64 KD, .bool false, .int .u32 ((TT : Nat) : Int), .int .i64 0, .int .u32 0, .int .i64 0, .int .u64 0, .int .u32 0, .slice none 0 0, .slice none 0 0, .slice none 0 0] _ (by exact range_block HG11.out) Try.underlying27 rfl HBI.out ?_))
          refine hK.out _ _ ?_ (fun hHeld => ?_)
          focus (exact trivial)
          clear hK K
          try simp only [PT]
          refine wpAnyH_ready (rs := [6]) (by kernel_rfl) (by simp) ?_
          refine (AllReadyH.cons (o := ⟨some 89, _, _, _, _, _⟩) rfl (fun K hK => ?_) AllReadyH.nil)
          focus (go_simp; have HAB : ∀ w0, Bs w0 ad n c l → Bs w0 (subAd ad c 8 1) (J - 8) (c - 8) D := fun w0 h0 => (by rw [← HD.out]; exact Bs.part h0 8 J hj8 (by omega)); go_must (refine (HOPN.out _ (J - 8) (c - 8) _ (HAB _ (HS.out.below (HB.out.trans (Below.mono bup HB.out.size)))) (by omega)).mono ?_); intro e w11 hr; obtain ⟨v, rad, rn, rc, ok, rfl, hok, hgood, hb__⟩ := hr; have hok2 : ok = false := hok; subst hok2; (first | (have hE__ := cU HB bup hb__; replace HB := ck HB hE__; replace HG4 := ck HG4 hE__; replace HG7 := ck HG7 hE__; replace HG11 := ck HG11 hE__; replace HG12 := ck HG12 hE__; clear hE__) | (have hE__ := cU HB bup hb__; replace HB := ck HB hE__; replace HG4 := ck HG4 hE__; replace HG7 := ck HG7 hE__; replace HG11 := ck HG11 hE__; clear hE__)); clear hb__ hok hgood; go_wp2_with fail)
          refine hK.out _ _ ?_ (fun hHeld => ?_)
          focus (exact trivial)
          clear hK K
          try simp only [PT]
          refine tk 7 (oi := ⟨some 82, _, _, _, _, _⟩) (v := ?_) rfl (by kernel_rfl) (.inl ⟨by rfl, ?_⟩) hHeld ?_; rotate_left; focus (intro w hSw; (try dsimp only at hSw); go_simp; try with_reducible rfl)
          simp only [PT]
          refine tk 8 (oi := ⟨some 90, _, _, _, _, _⟩) (v := ?_) rfl (by kernel_rfl) (.inl ⟨by rfl, ?_⟩) hHeld ?_; rotate_left; focus (intro w hSw; (try dsimp only at hSw); go_simp; try with_reducible rfl)
          simp only [PT]
          refine tk 9 (oi := ⟨some 91, _, _, _, _, _⟩) (v := ?_) rfl (by kernel_rfl) (.inl ⟨by rfl, ?_⟩) hHeld ?_; rotate_left; focus (intro w hSw; (try dsimp only at hSw); go_simp; try with_reducible rfl)
          simp only [PT]
          refine tk 10 (oi := ⟨some 92, _, _, _, _, _⟩) (v := ?_) rfl (by kernel_rfl) (.inl ⟨by rfl, ?_⟩) hHeld ?_; rotate_left; focus (intro w hSw; (try dsimp only at hSw); go_simp; try with_reducible rfl)
          simp only [PT]
          refine wpAnyH_ready (rs := [12]) (by kernel_rfl) (by simp) ?_
          refine (AllReadyH.cons (o := ⟨none, _, _, _, _, _⟩) rfl (fun K hK => ?_) AllReadyH.nil)
          (go_must (refine step_storeR rfl 27 (.tmp 12) (.tmp 90) rfl g12 v.cells.toArray rfl rfl HG12.out HBI.out rfl (bcells_all v) ?_); intro w13 hs__ hr__; replace HB := cg HB bup hr__ (by omega); replace HG4 := cg HG4 bup hr__ (by omega); replace HG7 := cg HG7 bup hr__ (by omega); clear HG12; have HG12 := Lib.hid hs__; clear hs__ hr__)
          refine hK.out _ _ ?_ (fun hHeld => ?_)
          focus (exact trivial)
          clear hK K
          try simp only [PT]
          refine tk 13 (oi := ⟨some 13, _, _, _, _, _⟩) (v := ?_) rfl (by kernel_rfl) (.inl ⟨by rfl, ?_⟩) hHeld ?_; rotate_left; focus (intro w hSw; (try dsimp only at hSw); go_simp; try with_reducible rfl)
          simp only [PT]
          refine tk 14 (oi := ⟨some 14, _, _, _, _, _⟩) (v := ?_) rfl (by kernel_rfl) (.inl ⟨by rfl, ?_⟩) hHeld ?_; rotate_left; focus (intro w hSw; (try dsimp only at hSw); go_simp; try with_reducible rfl)
          simp only [PT]
          refine wpAnyH_done (by kernel_rfl) ?_ _
          rotate_left
          all_goals
            go_wp2_with fail
            go_meet
            case rel => exact ⟨rfl, HG4.out, HG7.out, HB.out⟩
        case rest =>
          obtain ⟨rfl, hg4, hg7, hb4⟩ := hcut
          clear HB HG4 HG7 HG11
          have HB := Lib.hid hb4
          have HG4 := Lib.hid hg4
          have HG7 := Lib.hid hg7
          clear hg4 hg7 hb4
          go_wp2_with (first
            | ((with_reducible refine sl 95 ?_); go_must (refine wpL_load rfl 27 (.tmp 7) rfl g7 0 rfl [.int .i64 0, .bool false, .int .u32 0, .int .i64 0, .int .u32 0, .int .i64 0, .int .u64 0, .int .u32 0, .slice none 0 0, .slice none 0 0, .slice none 0 0] _ (range_block HG7.out) Try.underlying27 rfl HBI.out ?_); simp only [PT])
            | ((with_reducible show wpList _ _ _ (⟨none, .store _ (.tmp 4) (.tmp 95), _, _, _, _⟩ :: _) _ _); go_must (refine wpL_storeRow rfl 27 (.tmp 4) (.tmp 95) rfl g4 #[.int .i64 0, .bool false, .int .u32 0, .int .i64 0, .int .u32 0, .int .i64 0, .int .u64 0, .int .u32 0, .slice none 0 0, .slice none 0 0, .slice none 0 0] rfl rfl HG4.out HBI.out rfl (all1 _ rfl) ?_); intro w99 hs__ hr__; replace HB := cg HB bup hr__ (by omega); clear HG4; have HG4 := Lib.hid hs__; clear hs__ hr__; simp only [PT]))
          (try simp only [Exit.inBlock, Exit.then, Exit.noGoto_ret])
          refine bodyPost_cell1x (cs := [.int .i64 0, .bool false, .int .u32 0, .int .i64 0, .int .u32 0, .int .i64 0, .int .u64 0, .int .u32 0, .slice none 0 0, .slice none 0 0, .slice none 0 0]) rfl rfl (range_block HG4.out) Try.underlying27 rfl HBI.out rfl ?_
          exact ⟨noneV, by rw [HO.out]; rfl, by rw [HO.out]; rfl, ⟨own_nil _ _ _ _, OwnOps.nil _ _ _, OwnOps.nil _ _ _⟩, HB.out⟩
      | some p =>
        obtain ⟨x, r⟩ := p
        go_upto_region 22 with fail
        go_cut [12, 13, 14] from 17 (fun s12 s13 s14 wx => ∃ (g12 : Nat) (v : BlkV) (rad : Option Addr) (rn rc : Nat), s12 = .pointer (some ⟨g12, 0, none⟩) ∧ s13 = .slice rad rn rc ∧ s14 = .bool true ∧ wx.heap[g12]? = some (.cells v.cells.toArray 27 (0, 0)) ∧ g4 < g12 ∧ g7 < g12 ∧ g4 < g11 ∧ v.val = x ∧ Bs w rad rn rc r ∧ rn ≤ 1000000000 ∧ OwnBlk (g11 + 1) wx v ∧ Apart g12 v ∧ w.heap.size ≤ g11 ∧ w.heap.size ≤ g12 ∧ wx.heap[g4]? = some (.cells #[.int .i64 0, .bool false, .int .u32 0, .int .i64 0, .int .u32 0, .int .i64 0, .int .u64 0, .int .u32 0, .slice none 0 0, .slice none 0 0, .slice none 0 0] 27 (0, 0)) ∧ wx.heap[g7]? = some (.cells #[.int .i64 0, .bool false, .int .u32 0, .int .i64 0, .int .u32 0, .int .i64 0, .int .u64 0, .int .u32 0, .slice none 0 0, .slice none 0 0, .slice none 0 0] 27 (0, 0)) ∧ Below w.heap.size w wx)
        case first =>
          refine wp_region_held_drew (S := fun u => True) (by kernel_rfl) ?_ (fun hHeld => ?_)
          focus (exact trivial)
          refine tk 1 (oi := ⟨some 84, _, _, _, _, _⟩) (v := ?_) rfl (by kernel_rfl) (.inl ⟨by rfl, ?_⟩) hHeld ?_; rotate_left; focus (intro w hSw; (try dsimp only at hSw); go_simp; try with_reducible rfl)
          simp only [PT]
          refine tk 2 (oi := ⟨some 85, _, _, _, _, _⟩) (v := ?_) rfl (by kernel_rfl) (.inl ⟨by rfl, ?_⟩) hHeld ?_; rotate_left; focus (intro w hSw; (try dsimp only at hSw); go_simp; try with_reducible rfl)
          simp only [PT]
          refine' tk 3 (oi := ⟨some 86, _, _, _, _, _⟩) (v := (.int .i64 (J : Int))) rfl (by kernel_rfl) (.inl ⟨by rfl, ?_⟩) hHeld ?_; focus (intro w hSw; (try dsimp only at hSw); go_simp; first | done | rfl | (simp [*]; done) | (simp [*]; omega))
          simp only [PT]
          refine' tk 4 (oi := ⟨some 87, _, _, _, _, _⟩) (v := _) rfl (by kernel_rfl) (yields_slice elB rfl (.tmp 84) (some (.const (.int .i64 8))) (some (.tmp 86)) rfl rfl 8 J (.inr ⟨.i64, rfl⟩) (.inr ⟨.i64, rfl⟩) hj8 (by omega)) hHeld ?_
          simp only [PT]
          refine tk 5 (oi := ⟨some 88, _, _, _, _, _⟩) (v := ?_) rfl (by kernel_rfl) (.inl ⟨by rfl, ?_⟩) hHeld ?_; rotate_left; focus (intro w hSw; (try dsimp only at hSw); go_simp; try with_reducible rfl)
          simp only [PT]
          refine wpAnyH_ready (rs := [0, 11]) (by kernel_rfl) (by simp) ?_
          refine (AllReadyH.cons (o := ⟨some 83, _, _, _, _, _⟩) rfl (fun K hK => ?_) (AllReadyH.cons (o := ⟨some 12, _, _, _, _, _⟩) rfl (fun K hK => ?_) AllReadyH.nil))
          (go_must (refine step_loadR rfl 27 (.tmp 11) rfl g11 0 rfl [.int .i64 KD, .bool false, .int .u32 ((TT : Nat) : Int), .int .i64 0, .int .u32 0, .int .i64 0, .int .u64 0, .int .u32 0, .slice none 0 0, .slice none 0 0, .slice none 0 0] _ (by exact range_block HG11.out) Try.underlying27 rfl HBI.out ?_))
          refine hK.out _ _ ?_ (fun hHeld => ?_)
          focus (exact trivial)
          clear hK K
          try simp only [PT]
          refine wpAnyH_ready (rs := [6, 11]) (by kernel_rfl) (by simp) ?_
          refine (AllReadyH.cons (o := ⟨some 89, _, _, _, _, _⟩) rfl (fun K hK => ?_) (AllReadyH.cons (o := ⟨some 12, _, _, _, _, _⟩) rfl (fun K hK => ?_) AllReadyH.nil))
          focus (go_simp; have HAB : ∀ w0, Bs w0 ad n c l → Bs w0 (subAd ad c 8 1) (J - 8) (c - 8) D := fun w0 h0 => (by rw [← HD.out]; exact Bs.part h0 8 J hj8 (by omega)); go_must (refine (HOPN.out _ (J - 8) (c - 8) _ (HAB _ (HS.out.below (HB.out.trans (Below.mono bup HB.out.size)))) (by omega)).mono ?_); intro e w11 hr; obtain ⟨v, rad, rn, rc, ok, rfl, hok, hgood, hb__⟩ := hr; have hok2 : ok = true := hok; subst hok2; obtain ⟨hval, hrb, hown⟩ := hgood x r rfl; have HVAL := Lib.hid hval; have HX := Lib.hid (hown.base (base' := g11 + 1) (lt_of_block (by exact HG11.out))); have HRB := Lib.hid (hrb _ (HAB _ HS.out)); have hrn : rn ≤ 1000000000 := (by have h1 := HORL.out x r rfl; have h2 := HRB.out.len; omega); (first | (have HAP := Lib.hid (OwnBlk.apart_ge (hown.base (base' := g12 + 1) (lt_of_block (by exact HG12.out))) (Nat.lt_succ_self _)); have hE__ := cU HB bup hb__; replace HB := ck HB hE__; replace HG4 := ck HG4 hE__; replace HG7 := ck HG7 hE__; replace HG11 := ck HG11 hE__; replace HG12 := ck HG12 hE__; clear hE__) | (have hE__ := cU HB bup hb__; replace HB := ck HB hE__; replace HG4 := ck HG4 hE__; replace HG7 := ck HG7 hE__; replace HG11 := ck HG11 hE__; clear hE__)); clear hb__ hok hgood hval hrb hown; go_wp2_with fail)
          refine hK.out _ _ ?_ (fun hHeld => ?_)
          focus (exact trivial)
          clear hK K
          try simp only [PT]
          refine tk 7 (oi := ⟨some 82, _, _, _, _, _⟩) (v := ?_) rfl (by kernel_rfl) (.inl ⟨by rfl, ?_⟩) hHeld ?_; rotate_left; focus (intro w hSw; (try dsimp only at hSw); go_simp; try with_reducible rfl)
          simp only [PT]
          refine tk 8 (oi := ⟨some 90, _, _, _, _, _⟩) (v := ?_) rfl (by kernel_rfl) (.inl ⟨by rfl, ?_⟩) hHeld ?_; rotate_left; focus (intro w hSw; (try dsimp only at hSw); go_simp; try with_reducible rfl)
          simp only [PT]
          refine tk 9 (oi := ⟨some 91, _, _, _, _, _⟩) (v := ?_) rfl (by kernel_rfl) (.inl ⟨by rfl, ?_⟩) hHeld ?_; rotate_left; focus (intro w hSw; (try dsimp only at hSw); go_simp; try with_reducible rfl)
          simp only [PT]
          refine tk 10 (oi := ⟨some 92, _, _, _, _, _⟩) (v := ?_) rfl (by kernel_rfl) (.inl ⟨by rfl, ?_⟩) hHeld ?_; rotate_left; focus (intro w hSw; (try dsimp only at hSw); go_simp; try with_reducible rfl)
          simp only [PT]
          refine wpAnyH_ready (rs := [11]) (by kernel_rfl) (by simp) ?_
          refine (AllReadyH.cons (o := ⟨some 12, _, _, _, _, _⟩) rfl (fun K hK => ?_) AllReadyH.nil)
          (go_must (refine step_allocG rfl 27 rfl (.agg #[.int .i64 0, .bool false, .int .u32 0, .int .i64 0, .int .u32 0, .int .i64 0, .int .u64 0, .int .u32 0, .slice none 0 0, .slice none 0 0, .slice none 0 0]) #[.int .i64 0, .bool false, .int .u32 0, .int .i64 0, .int .u32 0, .int .i64 0, .int .u64 0, .int .u32 0, .slice none 0 0, .slice none 0 0, .slice none 0 0] 11 (by kernel_rfl) rfl ?_); intro w12 g12 le_g12 lt_g12 hg__ hb__; have l412 : g4 < g12 := Nat.lt_of_lt_of_le (lt_of_block (by exact HG4.out)) le_g12; have l712 : g7 < g12 := Nat.lt_of_lt_of_le (lt_of_block (by exact HG7.out)) le_g12; have HG12 := Lib.hid hg__; (first | (have HAP := Lib.hid (OwnBlk.apart_lt HX.out le_g12); have hE__ := cU HB bup hb__; replace HB := ck HB hE__; replace HG4 := ck HG4 hE__; replace HG7 := ck HG7 hE__; replace HG11 := ck HG11 hE__; replace HX := ck HX hE__; clear hE__) | (have hE__ := cU HB bup hb__; replace HB := ck HB hE__; replace HG4 := ck HG4 hE__; replace HG7 := ck HG7 hE__; replace HG11 := ck HG11 hE__; clear hE__)); clear hg__ hb__)
          refine hK.out _ _ ?_ (fun hHeld => ?_)
          focus (exact trivial)
          clear hK K
          try simp only [PT]
          refine wpAnyH_ready (rs := [12]) (by kernel_rfl) (by simp) ?_
          refine (AllReadyH.cons (o := ⟨none, _, _, _, _, _⟩) rfl (fun K hK => ?_) AllReadyH.nil)
          (go_must (refine step_storeR rfl 27 (.tmp 12) (.tmp 90) rfl g12 v.cells.toArray rfl rfl HG12.out HBI.out rfl (bcells_all v) ?_); intro w13 hs__ hr__; replace HB := cg HB bup hr__ (by omega); replace HG4 := cg HG4 bup hr__ (by omega); replace HG7 := cg HG7 bup hr__ (by omega); replace HX := cXn HX HAP.out bup hr__; clear HG12; have HG12 := Lib.hid hs__; clear hs__ hr__)
          refine hK.out _ _ ?_ (fun hHeld => ?_)
          focus (exact trivial)
          clear hK K
          try simp only [PT]
          refine tk 13 (oi := ⟨some 13, _, _, _, _, _⟩) (v := ?_) rfl (by kernel_rfl) (.inl ⟨by rfl, ?_⟩) hHeld ?_; rotate_left; focus (intro w hSw; (try dsimp only at hSw); go_simp; try with_reducible rfl)
          simp only [PT]
          refine tk 14 (oi := ⟨some 14, _, _, _, _, _⟩) (v := ?_) rfl (by kernel_rfl) (.inl ⟨by rfl, ?_⟩) hHeld ?_; rotate_left; focus (intro w hSw; (try dsimp only at hSw); go_simp; try with_reducible rfl)
          simp only [PT]
          refine wpAnyH_done (by kernel_rfl) ?_ _
          rotate_left
          (go_must (refine step_allocG rfl 27 rfl (.agg #[.int .i64 0, .bool false, .int .u32 0, .int .i64 0, .int .u32 0, .int .i64 0, .int .u64 0, .int .u32 0, .slice none 0 0, .slice none 0 0, .slice none 0 0]) #[.int .i64 0, .bool false, .int .u32 0, .int .i64 0, .int .u32 0, .int .i64 0, .int .u64 0, .int .u32 0, .slice none 0 0, .slice none 0 0, .slice none 0 0] 11 (by kernel_rfl) rfl ?_); intro w12 g12 le_g12 lt_g12 hg__ hb__; have l412 : g4 < g12 := Nat.lt_of_lt_of_le (lt_of_block (by exact HG4.out)) le_g12; have l712 : g7 < g12 := Nat.lt_of_lt_of_le (lt_of_block (by exact HG7.out)) le_g12; have HG12 := Lib.hid hg__; (first | (have HAP := Lib.hid (OwnBlk.apart_lt HX.out le_g12); have hE__ := cU HB bup hb__; replace HB := ck HB hE__; replace HG4 := ck HG4 hE__; replace HG7 := ck HG7 hE__; replace HG11 := ck HG11 hE__; replace HX := ck HX hE__; clear hE__) | (have hE__ := cU HB bup hb__; replace HB := ck HB hE__; replace HG4 := ck HG4 hE__; replace HG7 := ck HG7 hE__; replace HG11 := ck HG11 hE__; clear hE__)); clear hg__ hb__)
          refine hK.out _ _ ?_ (fun hHeld => ?_)
          focus (exact trivial)
          clear hK K
          try simp only [PT]
          refine wpAnyH_ready (rs := [6]) (by kernel_rfl) (by simp) ?_
          refine (AllReadyH.cons (o := ⟨some 89, _, _, _, _, _⟩) rfl (fun K hK => ?_) AllReadyH.nil)
          focus (go_simp; have HAB : ∀ w0, Bs w0 ad n c l → Bs w0 (subAd ad c 8 1) (J - 8) (c - 8) D := fun w0 h0 => (by rw [← HD.out]; exact Bs.part h0 8 J hj8 (by omega)); go_must (refine (HOPN.out _ (J - 8) (c - 8) _ (HAB _ (HS.out.below (HB.out.trans (Below.mono bup HB.out.size)))) (by omega)).mono ?_); intro e w11 hr; obtain ⟨v, rad, rn, rc, ok, rfl, hok, hgood, hb__⟩ := hr; have hok2 : ok = true := hok; subst hok2; obtain ⟨hval, hrb, hown⟩ := hgood x r rfl; have HVAL := Lib.hid hval; have HX := Lib.hid (hown.base (base' := g11 + 1) (lt_of_block (by exact HG11.out))); have HRB := Lib.hid (hrb _ (HAB _ HS.out)); have hrn : rn ≤ 1000000000 := (by have h1 := HORL.out x r rfl; have h2 := HRB.out.len; omega); (first | (have HAP := Lib.hid (OwnBlk.apart_ge (hown.base (base' := g12 + 1) (lt_of_block (by exact HG12.out))) (Nat.lt_succ_self _)); have hE__ := cU HB bup hb__; replace HB := ck HB hE__; replace HG4 := ck HG4 hE__; replace HG7 := ck HG7 hE__; replace HG11 := ck HG11 hE__; replace HG12 := ck HG12 hE__; clear hE__) | (have hE__ := cU HB bup hb__; replace HB := ck HB hE__; replace HG4 := ck HG4 hE__; replace HG7 := ck HG7 hE__; replace HG11 := ck HG11 hE__; clear hE__)); clear hb__ hok hgood hval hrb hown; go_wp2_with fail)
          refine hK.out _ _ ?_ (fun hHeld => ?_)
          focus (exact trivial)
          clear hK K
          try simp only [PT]
          refine tk 7 (oi := ⟨some 82, _, _, _, _, _⟩) (v := ?_) rfl (by kernel_rfl) (.inl ⟨by rfl, ?_⟩) hHeld ?_; rotate_left; focus (intro w hSw; (try dsimp only at hSw); go_simp; try with_reducible rfl)
          simp only [PT]
          refine tk 8 (oi := ⟨some 90, _, _, _, _, _⟩) (v := ?_) rfl (by kernel_rfl) (.inl ⟨by rfl, ?_⟩) hHeld ?_; rotate_left; focus (intro w hSw; (try dsimp only at hSw); go_simp; try with_reducible rfl)
          simp only [PT]
          refine tk 9 (oi := ⟨some 91, _, _, _, _, _⟩) (v := ?_) rfl (by kernel_rfl) (.inl ⟨by rfl, ?_⟩) hHeld ?_; rotate_left; focus (intro w hSw; (try dsimp only at hSw); go_simp; try with_reducible rfl)
          simp only [PT]
          refine tk 10 (oi := ⟨some 92, _, _, _, _, _⟩) (v := ?_) rfl (by kernel_rfl) (.inl ⟨by rfl, ?_⟩) hHeld ?_; rotate_left; focus (intro w hSw; (try dsimp only at hSw); go_simp; try with_reducible rfl)
          simp only [PT]
          refine wpAnyH_ready (rs := [12]) (by kernel_rfl) (by simp) ?_
          refine (AllReadyH.cons (o := ⟨none, _, _, _, _, _⟩) rfl (fun K hK => ?_) AllReadyH.nil)
          (go_must (refine step_storeR rfl 27 (.tmp 12) (.tmp 90) rfl g12 v.cells.toArray rfl rfl HG12.out HBI.out rfl (bcells_all v) ?_); intro w13 hs__ hr__; replace HB := cg HB bup hr__ (by omega); replace HG4 := cg HG4 bup hr__ (by omega); replace HG7 := cg HG7 bup hr__ (by omega); replace HX := cXn HX HAP.out bup hr__; clear HG12; have HG12 := Lib.hid hs__; clear hs__ hr__)
          refine hK.out _ _ ?_ (fun hHeld => ?_)
          focus (exact trivial)
          clear hK K
          try simp only [PT]
          refine tk 13 (oi := ⟨some 13, _, _, _, _, _⟩) (v := ?_) rfl (by kernel_rfl) (.inl ⟨by rfl, ?_⟩) hHeld ?_; rotate_left; focus (intro w hSw; (try dsimp only at hSw); go_simp; try with_reducible rfl)
          simp only [PT]
          refine tk 14 (oi := ⟨some 14, _, _, _, _, _⟩) (v := ?_) rfl (by kernel_rfl) (.inl ⟨by rfl, ?_⟩) hHeld ?_; rotate_left; focus (intro w hSw; (try dsimp only at hSw); go_simp; try with_reducible rfl)
          simp only [PT]
          refine wpAnyH_done (by kernel_rfl) ?_ _
          rotate_left
          (go_must (refine step_allocG rfl 27 rfl (.agg #[.int .i64 0, .bool false, .int .u32 0, .int .i64 0, .int .u32 0, .int .i64 0, .int .u64 0, .int .u32 0, .slice none 0 0, .slice none 0 0, .slice none 0 0]) #[.int .i64 0, .bool false, .int .u32 0, .int .i64 0, .int .u32 0, .int .i64 0, .int .u64 0, .int .u32 0, .slice none 0 0, .slice none 0 0, .slice none 0 0] 11 (by kernel_rfl) rfl ?_); intro w12 g12 le_g12 lt_g12 hg__ hb__; have l412 : g4 < g12 := Nat.lt_of_lt_of_le (lt_of_block (by exact HG4.out)) le_g12; have l712 : g7 < g12 := Nat.lt_of_lt_of_le (lt_of_block (by exact HG7.out)) le_g12; have HG12 := Lib.hid hg__; (first | (have HAP := Lib.hid (OwnBlk.apart_lt HX.out le_g12); have hE__ := cU HB bup hb__; replace HB := ck HB hE__; replace HG4 := ck HG4 hE__; replace HG7 := ck HG7 hE__; replace HG11 := ck HG11 hE__; replace HX := ck HX hE__; clear hE__) | (have hE__ := cU HB bup hb__; replace HB := ck HB hE__; replace HG4 := ck HG4 hE__; replace HG7 := ck HG7 hE__; replace HG11 := ck HG11 hE__; clear hE__)); clear hg__ hb__)
          refine hK.out _ _ ?_ (fun hHeld => ?_)
          focus (exact trivial)
          clear hK K
          try simp only [PT]
          refine wpAnyH_ready (rs := [0]) (by kernel_rfl) (by simp) ?_
          refine (AllReadyH.cons (o := ⟨some 83, _, _, _, _, _⟩) rfl (fun K hK => ?_) AllReadyH.nil)
          (go_must (refine step_loadR rfl 27 (.tmp 11) rfl g11 0 rfl [.int .i64 KD, .bool false, .int .u32 ((TT : Nat) : Int), .int .i64 0, .int .u32 0, .int .i64 0, .int .u64 0, .int .u32 0, .slice none 0 0, .slice none 0 0, .slice none 0 0] _ (by exact range_block HG11.out) Try.underlying27 rfl HBI.out ?_))
          refine hK.out _ _ ?_ (fun hHeld => ?_)
          focus (exact trivial)
          clear hK K
          try simp only [PT]
          refine wpAnyH_ready (rs := [6]) (by kernel_rfl) (by simp) ?_
          refine (AllReadyH.cons (o := ⟨some 89, _, _, _, _, _⟩) rfl (fun K hK => ?_) AllReadyH.nil)
          focus (go_simp; have HAB : ∀ w0, Bs w0 ad n c l → Bs w0 (subAd ad c 8 1) (J - 8) (c - 8) D := fun w0 h0 => (by rw [← HD.out]; exact Bs.part h0 8 J hj8 (by omega)); go_must (refine (HOPN.out _ (J - 8) (c - 8) _ (HAB _ (HS.out.below (HB.out.trans (Below.mono bup HB.out.size)))) (by omega)).mono ?_); intro e w11 hr; obtain ⟨v, rad, rn, rc, ok, rfl, hok, hgood, hb__⟩ := hr; have hok2 : ok = true := hok; subst hok2; obtain ⟨hval, hrb, hown⟩ := hgood x r rfl; have HVAL := Lib.hid hval; have HX := Lib.hid (hown.base (base' := g11 + 1) (lt_of_block (by exact HG11.out))); have HRB := Lib.hid (hrb _ (HAB _ HS.out)); have hrn : rn ≤ 1000000000 := (by have h1 := HORL.out x r rfl; have h2 := HRB.out.len; omega); (first | (have HAP := Lib.hid (OwnBlk.apart_ge (hown.base (base' := g12 + 1) (lt_of_block (by exact HG12.out))) (Nat.lt_succ_self _)); have hE__ := cU HB bup hb__; replace HB := ck HB hE__; replace HG4 := ck HG4 hE__; replace HG7 := ck HG7 hE__; replace HG11 := ck HG11 hE__; replace HG12 := ck HG12 hE__; clear hE__) | (have hE__ := cU HB bup hb__; replace HB := ck HB hE__; replace HG4 := ck HG4 hE__; replace HG7 := ck HG7 hE__; replace HG11 := ck HG11 hE__; clear hE__)); clear hb__ hok hgood hval hrb hown; go_wp2_with fail)
          refine hK.out _ _ ?_ (fun hHeld => ?_)
          focus (exact trivial)
          clear hK K
          try simp only [PT]
          refine tk 7 (oi := ⟨some 82, _, _, _, _, _⟩) (v := ?_) rfl (by kernel_rfl) (.inl ⟨by rfl, ?_⟩) hHeld ?_; rotate_left; focus (intro w hSw; (try dsimp only at hSw); go_simp; try with_reducible rfl)
          simp only [PT]
          refine tk 8 (oi := ⟨some 90, _, _, _, _, _⟩) (v := ?_) rfl (by kernel_rfl) (.inl ⟨by rfl, ?_⟩) hHeld ?_; rotate_left; focus (intro w hSw; (try dsimp only at hSw); go_simp; try with_reducible rfl)
          simp only [PT]
          refine tk 9 (oi := ⟨some 91, _, _, _, _, _⟩) (v := ?_) rfl (by kernel_rfl) (.inl ⟨by rfl, ?_⟩) hHeld ?_; rotate_left; focus (intro w hSw; (try dsimp only at hSw); go_simp; try with_reducible rfl)
          simp only [PT]
          refine tk 10 (oi := ⟨some 92, _, _, _, _, _⟩) (v := ?_) rfl (by kernel_rfl) (.inl ⟨by rfl, ?_⟩) hHeld ?_; rotate_left; focus (intro w hSw; (try dsimp only at hSw); go_simp; try with_reducible rfl)
          simp only [PT]
          refine wpAnyH_ready (rs := [12]) (by kernel_rfl) (by simp) ?_
          refine (AllReadyH.cons (o := ⟨none, _, _, _, _, _⟩) rfl (fun K hK => ?_) AllReadyH.nil)
          (go_must (refine step_storeR rfl 27 (.tmp 12) (.tmp 90) rfl g12 v.cells.toArray rfl rfl HG12.out HBI.out rfl (bcells_all v) ?_); intro w13 hs__ hr__; replace HB := cg HB bup hr__ (by omega); replace HG4 := cg HG4 bup hr__ (by omega); replace HG7 := cg HG7 bup hr__ (by omega); replace HX := cXn HX HAP.out bup hr__; clear HG12; have HG12 := Lib.hid hs__; clear hs__ hr__)
          refine hK.out _ _ ?_ (fun hHeld => ?_)
          focus (exact trivial)
          clear hK K
          try simp only [PT]
          refine tk 13 (oi := ⟨some 13, _, _, _, _, _⟩) (v := ?_) rfl (by kernel_rfl) (.inl ⟨by rfl, ?_⟩) hHeld ?_; rotate_left; focus (intro w hSw; (try dsimp only at hSw); go_simp; try with_reducible rfl)
          simp only [PT]
          refine tk 14 (oi := ⟨some 14, _, _, _, _, _⟩) (v := ?_) rfl (by kernel_rfl) (.inl ⟨by rfl, ?_⟩) hHeld ?_; rotate_left; focus (intro w hSw; (try dsimp only at hSw); go_simp; try with_reducible rfl)
          simp only [PT]
          refine wpAnyH_done (by kernel_rfl) ?_ _
          rotate_left
          all_goals
            go_wp2_with fail
            go_meet
            case rel => exact ⟨_, v, rad, rn, rc, rfl, rfl, rfl, HG12.out, l412, l712, h411, HVAL.out, HRB.out, hrn, HX.out, HAP.out, by omega, by omega, HG4.out, HG7.out, HB.out⟩
        case rest =>
          obtain ⟨g12, v, rad, rn, rc, rfl, rfl, rfl, hg12, l412, l712, h411', hval, hrb, hrn, hx, hap, lw11, lw12, hg4, hg7, hb4⟩ := hcut
          have HG12 := Lib.hid hg12
          have HVAL := Lib.hid hval
          have HRB := Lib.hid hrb
          have HX := Lib.hid hx
          have HAP := Lib.hid hap
          clear hg12 hval hrb hx hap
          clear HB HG4 HG7 HG11
          have HB := Lib.hid hb4
          have HG4 := Lib.hid hg4
          have HG7 := Lib.hid hg7
          clear hg4 hg7 hb4
          obtain ⟨X, hX⟩ : ∃ X, X = readO G r := ⟨_, rfl⟩
          obtain ⟨X1, s1, s2⟩ := X
          have HXX := Lib.hid hX.symm
          have HQ2 : Hid (getP big l = if (s1, s2) = ((0, 0) : Nat × Int) then ({ x with opts := X1 }, N4, 0) else (noneB, 0, 3)) := Lib.hid (by rw [HQ.out]; unfold endP; simp only [← hX])
          have HX3 : Hid ((s1, s2) = ((0, 0) : Nat × Int) ∨ s2 ≠ 0) := Lib.hid (by
            have e : (readO G r).2 = (s1, s2) := congrArg (fun p => p.2) hX.symm
            have h := readO_spot G r
            rw [e] at h
            exact h)
          clear hX HN
          by_cases hz : (s1, s2) = ((0, 0) : Nat × Int)
          rotate_left
          · have HO : Hid (getP big l = (noneB, 0, 3)) := Lib.hid (by rw [HQ2.out, if_neg hz])
            have hz2 : ¬ s2 = 0 := HX3.out.resolve_left hz
            have hz3 : (s2 != 0) = true := by simp [hz2]
            clear hz HQ HQ2 HX3
            go_wp2_with (first
              | (go_at_call 63; go_must (refine (refRead_any rad rn rc r G _ (HRB.out.below (HB.out.trans (Below.mono bup HB.out.size))) (by omega)).mono ?_); intro e w14 hr; rw [HXX.out] at hr; dsimp only at hr; obtain ⟨ad5, n5, c5, os, rfl, how, hvs, hb__⟩ := hr; have HW := Lib.hid (how.base (base' := g12 + 1) (lt_of_block (by exact HG12.out))); have HVS := Lib.hid hvs; have hE__ := cU HB bup hb__; replace HB := ck HB hE__; replace HG4 := ck HG4 hE__; replace HG7 := ck HG7 hE__; replace HG12 := ck HG12 hE__; replace HX := ck HX hE__; clear hE__; clear hb__ how hvs)
              | ((with_reducible refine sl 16 ?_); go_must (refine wpL_allocG rfl 49 rfl (.agg #[.int .i64 0, .int .i64 0]) #[.int .i64 0, .int .i64 0] 2 (by kernel_rfl) rfl ?_); intro w15 g16 he__ le_g16 lt_g16 hg__ hb__; have HG16 := Lib.hid hg__; have le16 : w14.heap.size ≤ g16 := le_g16; have HBA := Lib.hid (show Below w14.heap.size w14 w15 from Below.trans bup hb__); have sz5 := lt_of_block HG12.out; have hE__ := cU HB bup hb__; replace HB := ck HB hE__; replace HG4 := ck HG4 hE__; replace HG7 := ck HG7 hE__; replace HG12 := ck HG12 hE__; clear hE__; clear hg__ hb__ he__; simp only [PT])
              | ((with_reducible show wpList _ _ _ (⟨none, .store _ (.tmp 16) (.tmp 101), _, _, _, _⟩ :: _) _ _); go_must (refine wpL_storeRow rfl 49 (.tmp 16) (.tmp 101) rfl g16 (spotC (s1, s2)).toArray rfl rfl HG16.out HI.out rfl (all1 (spotC (s1, s2)) rfl) ?_); intro w16 hs__ hr__; replace HB := cg HB bup hr__ (by omega); replace HG4 := cg HG4 bup hr__ (by omega); replace HG7 := cg HG7 bup hr__ (by omega); replace HG12 := cg HG12 bup hr__ (by omega); replace HBA := cg HBA bup hr__ (by omega); replace HW := cW1 HW HBA.out; replace HX := cX1 HX HBA.out; clear HG16; have HG16 := Lib.hid hs__; clear hs__ hr__; simp only [PT])
              | ((with_reducible refine sl 103 ?_); go_must (refine wpL_loadF rfl 31 (.tmp 102) rfl g16 1 rfl (.int .i64 s2) HG16.out rfl Try.underlying31 rfl ?_); simp only [PT])
              | ((with_reducible refine sl 105 ?_); go_must (refine wpL_load rfl 27 (.tmp 7) rfl g7 0 rfl [.int .i64 0, .bool false, .int .u32 0, .int .i64 0, .int .u32 0, .int .i64 0, .int .u64 0, .int .u32 0, .slice none 0 0, .slice none 0 0, .slice none 0 0] _ (range_block HG7.out) Try.underlying27 rfl HBI.out ?_); simp only [PT])
              | ((with_reducible show wpList _ _ _ (⟨none, .store _ (.tmp 4) (.tmp 105), _, _, _, _⟩ :: _) _ _); go_must (refine wpL_storeRow rfl 27 (.tmp 4) (.tmp 105) rfl g4 #[.int .i64 0, .bool false, .int .u32 0, .int .i64 0, .int .u32 0, .int .i64 0, .int .u64 0, .int .u32 0, .slice none 0 0, .slice none 0 0, .slice none 0 0] rfl rfl HG4.out HBI.out rfl (all1 _ rfl) ?_); intro w99 hs__ hr__; replace HB := cg HB bup hr__ (by omega); clear HG4; have HG4 := Lib.hid hs__; clear hs__ hr__; simp only [PT]))
            (try simp only [Exit.inBlock, Exit.then, Exit.noGoto_ret])
            refine bodyPost_cell1x (cs := [.int .i64 0, .bool false, .int .u32 0, .int .i64 0, .int .u32 0, .int .i64 0, .int .u64 0, .int .u32 0, .slice none 0 0, .slice none 0 0, .slice none 0 0]) rfl rfl (range_block HG4.out) Try.underlying27 rfl HBI.out rfl ?_
            exact ⟨noneV, by rw [HO.out]; rfl, by rw [HO.out]; rfl, ⟨own_nil _ _ _ _, OwnOps.nil _ _ _, OwnOps.nil _ _ _⟩, HB.out⟩
          · have HO : Hid (getP big l = ({ x with opts := X1 }, N4, 0)) := Lib.hid (by rw [HQ2.out, if_pos hz])
            clear HQ HQ2 HX3
            have hz1 : s1 = 0 := congrArg Prod.fst hz
            have hz2 : s2 = 0 := congrArg Prod.snd hz
            clear hz
            subst hz1
            subst hz2
            go_wp2_with (first
              | (go_at_call 63; go_must (refine (refRead_any rad rn rc r G _ (HRB.out.below (HB.out.trans (Below.mono bup HB.out.size))) (by omega)).mono ?_); intro e w14 hr; rw [HXX.out] at hr; dsimp only at hr; obtain ⟨ad5, n5, c5, os, rfl, how, hvs, hb__⟩ := hr; have HW := Lib.hid (how.base (base' := g12 + 1) (lt_of_block (by exact HG12.out))); have HVS := Lib.hid hvs; have hE__ := cU HB bup hb__; replace HB := ck HB hE__; replace HG4 := ck HG4 hE__; replace HG7 := ck HG7 hE__; replace HG12 := ck HG12 hE__; replace HX := ck HX hE__; clear hE__; clear hb__ how hvs)
              | ((with_reducible refine sl 16 ?_); go_must (refine wpL_allocG rfl 49 rfl (.agg #[.int .i64 0, .int .i64 0]) #[.int .i64 0, .int .i64 0] 2 (by kernel_rfl) rfl ?_); intro w15 g16 he__ le_g16 lt_g16 hg__ hb__; have HG16 := Lib.hid hg__; have le16 : w14.heap.size ≤ g16 := le_g16; have HBA := Lib.hid (show Below w14.heap.size w14 w15 from Below.trans bup hb__); have sz5 := lt_of_block HG12.out; have hE__ := cU HB bup hb__; replace HB := ck HB hE__; replace HG4 := ck HG4 hE__; replace HG7 := ck HG7 hE__; replace HG12 := ck HG12 hE__; clear hE__; clear hg__ hb__ he__; simp only [PT])
              | ((with_reducible show wpList _ _ _ (⟨none, .store _ (.tmp 16) (.tmp 101), _, _, _, _⟩ :: _) _ _); go_must (refine wpL_storeRow rfl 49 (.tmp 16) (.tmp 101) rfl g16 (spotC (0, 0)).toArray rfl rfl HG16.out HI.out rfl (all1 (spotC (0, 0)) rfl) ?_); intro w16 hs__ hr__; replace HB := cg HB bup hr__ (by omega); replace HG4 := cg HG4 bup hr__ (by omega); replace HG7 := cg HG7 bup hr__ (by omega); replace HG12 := cg HG12 bup hr__ (by omega); replace HBA := cg HBA bup hr__ (by omega); replace HW := cW1 HW HBA.out; replace HX := cX1 HX HBA.out; clear HG16; have HG16 := Lib.hid hs__; clear hs__ hr__; simp only [PT])
              | ((with_reducible refine sl 103 ?_); go_must (refine wpL_loadF rfl 31 (.tmp 102) rfl g16 1 rfl (.int .i64 0) HG16.out rfl Try.underlying31 rfl ?_); simp only [PT])
              | ((with_reducible show wpList _ _ _ (⟨none, .store _ (.tmp 107) (.tmp 106), _, _, _, _⟩ :: _) _ _); go_must (refine wpL_storeF rfl 25 (.tmp 107) (.tmp 106) rfl g12 10 (.slice ad5 n5 c5) rfl rfl rfl HG12.out (show (10 : Nat) < 11 by decide) (by kernel_rfl) ({ v with oad := ad5, on := n5, oc := c5, os := os } : BlkV).cells.toArray rfl ?_); intro w17 hs__ hr__; replace HB := cg HB bup hr__ (by omega); replace HG4 := cg HG4 bup hr__ (by omega); replace HX := cXn HX HAP.out bup hr__; replace HW := cg HW bup hr__ (by omega); clear HG12; have HG12 := Lib.hid hs__; clear hs__ hr__; simp only [PT])
              | ((with_reducible refine sl 108 ?_); go_must (refine wpL_load rfl 27 (.tmp 12) rfl g12 0 rfl ({ v with oad := ad5, on := n5, oc := c5, os := os } : BlkV).cells _ (range_block HG12.out) Try.underlying27 rfl HBI.out ?_); simp only [PT])
              | ((with_reducible show wpList _ _ _ (⟨none, .store _ (.tmp 4) (.tmp 108), _, _, _, _⟩ :: _) _ _); go_must (refine wpL_storeRow rfl 27 (.tmp 4) (.tmp 108) rfl g4 ({ v with oad := ad5, on := n5, oc := c5, os := os } : BlkV).cells.toArray rfl rfl HG4.out HBI.out rfl (bcells_all _) ?_); intro w18 hs__ hr__; replace HB := cg HB bup hr__ (by omega); replace HX := cg HX bup hr__ (by omega); replace HW := cg HW bup hr__ (by omega); clear HG4; have HG4 := Lib.hid hs__; clear hs__ hr__; simp only [PT]))
            (try simp only [Exit.inBlock, Exit.then, Exit.noGoto_ret])
            refine bodyPost_cell1x (cs := ({ v with oad := ad5, on := n5, oc := c5, os := os } : BlkV).cells) rfl rfl (range_block HG4.out) Try.underlying27 rfl HBI.out rfl ?_
            refine ⟨{ v with oad := ad5, on := n5, oc := c5, os := os }, by rw [HO.out]; rfl, ?_, ⟨own_base HX.out.1 (by omega), HX.out.2.1.base (by omega), HW.out.base (by omega)⟩, HB.out⟩
            rw [HO.out, ← HVS.out, ← HVAL.out]
            rfl
end Go.Proofs.Ytmfplinbbcoahaa
