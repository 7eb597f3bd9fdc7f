/-
  Joined by program (merge.py): Blk2, Fld, Fld2, Fld3, Fld4, PlainPcap, PcKit, Opn1, Opn2, Tail.
-/
import Derived.RegionTactic
import Derived.BigRegion
import Derived.Deep.MidRow
import Derived.OrdersHeld
import Derived.Great.BuildSlice
import Derived.Deep.RegionLawGrows
import Derived.StillTail
import Derived.Test.YtmfplinbbcoahaaR1
import Derived.Test.YtmfplinbbcoahaaR2
import Derived.Test.YtmfplinbbcoahaaR3
set_option linter.unusedVariables false
set_option linter.unusedSimpArgs false
set_option maxRecDepth 100000
set_option maxHeartbeats 16000000
namespace Go.Proofs.Ytmfplinbbcoahaa
open Go.RowKit Go.Sort
def zeroC : Array Value := #[.int .i64 0, .bool false, .int .u32 0, .int .i64 0, .int .u32 0, .int .i64 0, .int .u64 0, .int .u32 0, .slice none 0 0, .slice none 0 0, .slice none 0 0]
theorem z1s : (Try.prog.info? 27).map (fun i => (i.zero, i.size)) = some (some (.agg zeroC), 11) := by kernel_rfl
theorem z0d : (Try.prog.info? 27).map (·.size) = some 11 := by kernel_rfl
def onlyV (v : BlkV) : BlkV :=
  if v.kind = 1 then ⟨v.kind, v.big, 0, 0, 0, 0, 0, 0, none, 0, 0, [], none, 0, 0, [], v.oad, v.on, v.oc, v.os⟩
  else if v.kind = 2 then ⟨v.kind, false, 0, v.link, v.snap, 0, 0, 0, none, 0, 0, [], none, 0, 0, [], v.oad, v.on, v.oc, v.os⟩
  else if v.kind = 3 then ⟨v.kind, false, 0, 0, 0, v.iface, v.time, v.len, v.dad, v.dn, v.dc, v.dl, none, 0, 0, [], v.oad, v.on, v.oc, v.os⟩
  else if v.kind = 4 then ⟨v.kind, false, 0, 0, 0, 0, 0, v.len, v.dad, v.dn, v.dc, v.dl, none, 0, 0, [], none, 0, 0, []⟩
  else if v.kind = 5 then ⟨v.kind, false, 0, 0, 0, 0, 0, 0, none, 0, 0, [], v.nad, v.nn, v.nc, v.ns, v.oad, v.on, v.oc, v.os⟩
  else if v.kind = 6 then ⟨v.kind, false, 0, 0, 0, v.iface, v.time, 0, none, 0, 0, [], none, 0, 0, [], v.oad, v.on, v.oc, v.os⟩
  else ⟨v.kind, false, v.type, 0, 0, 0, 0, 0, v.dad, v.dn, v.dc, v.dl, none, 0, 0, [], none, 0, 0, []⟩
theorem Blk.only {w : World} {v : BlkV} (h : Blk w v) : Blk w (onlyV v) := by
  obtain ⟨h1, h2, h3⟩ := h
  have n1 : Bs w none 0 0 [] := Sl.nil w 1
  have n2 : Ops w none 0 0 [] := ⟨Sl.nil w 2, fun o ho => by cases ho⟩
  unfold onlyV
  repeat' split
  all_goals exact ⟨by assumption, by assumption, by assumption⟩
theorem only_any (v : BlkV) (w : World) (h1 : 1 ≤ v.kind) (h7 : v.kind ≤ 7) :
    Calls Try.prog 69 #[.agg v.cells.toArray] w fun e w' => e = .returned (.agg (onlyV v).cells.toArray) ∧ Below w.heap.size w w' := by
  have HB := Hd (Below.refl w.heap.size w)
  obtain ⟨C, hC⟩ : ∃ C, C = (onlyV v).cells := ⟨_, rfl⟩
  have HC := Hd hC
  rw [← hC]
  clear hC
  obtain ⟨kind, hkind⟩ : ∃ k, k = v.kind := ⟨_, rfl⟩
  rw [← hkind] at h1 h7
  have HK := Hd hkind
  clear hkind
  rcases kind_cases h1 h7 with rfl | rfl | rfl | rfl | rfl | rfl | rfl
  · clear h1 h7
    have E : Hid (C = [.int .i64 1, .bool v.big, .int .u32 0, .int .i64 0, .int .u32 0, .int .i64 0, .int .u64 0, .int .u32 0, .slice none 0 0, .slice none 0 0, .slice v.oad v.on v.oc]) := Hd (by rw [HC.out]; unfold onlyV; rw [← HK.out]; rfl)
    go_enter Try.func69, Try.ntmps69
    go_wp2_with (first
 | ((with_reducible refine sl 1 ?_); (refine z1f rfl 27 (.tmp 0) rfl v.cells.toArray rfl ?_); intro w1 hg1 hb1; have HX := Hd hg1; have hE__ := cU HB bup hb1; replace HB := ck HB hE__; clear hE__; have HZ1 := Hd HB.out.size; clear hg1 hb1; simp only [PT])
 | ((with_reducible refine sl 2 ?_); (refine z2r rfl 27 rfl zeroC 11 z1s ?_); intro w2 hg2 hb2; have HR := Hd hg2; have hE__ := cU HB bup hb2; replace HB := ck HB hE__; replace HX := ck HX hE__; clear hE__; have HZ2 := Hd HB.out.size; clear hg2 hb2; obtain ⟨c0, c1, c2, c3, c4, c5, c6, c7, c8, c9, c10⟩ := z03 HX.out; rw [← HK.out] at c0; simp only [PT])
 | ((with_reducible refine sl 3 ?_); clear c0 c1 c2 c3 c4 c5 c6 c7 c8 c9 c10; (refine z3c rfl rfl 27 rfl (.tmp 3) (.tmp 8) rfl #[.int .i64 1, .bool false, .int .u32 0, .int .i64 0, .int .u32 0, .int .i64 0, .int .u64 0, .int .u32 0, .slice none 0 0, .slice none 0 0, .slice v.oad v.on v.oc] zeroC (by kernel_rfl) rfl (by simp only [List.all_toArray, List.all_cons, List.all_nil, Bool.and_true, Bool.and_eq_true]; exact ⟨rfl, rfl, rfl, rfl, rfl, rfl, rfl, rfl, rfl, rfl, rfl⟩) (fun _ => rfl) (fun _ => rfl) ?_); intro w3 hg3 hb3; have HY := Hd hg3; have HNE := Hd (Nat.ne_of_lt (lt_of_block HR.out)); have hE__ := cU HB bup hb3; replace HB := ck HB hE__; replace HX := ck HX hE__; replace HR := ck HR hE__; clear hE__; clear hg3 hb3; obtain ⟨c0, c1, c2, c3, c4, c5, c6, c7, c8, c9, c10⟩ := z03 HX.out; rw [← HK.out] at c0; obtain ⟨y0, y1, y2, y3, y4, y5, y6, y7, y8, y9, y10⟩ := cells11 HY.out; have f1 := frz HY.out 1; simp only [PT])
 | ((with_reducible refine sl 69 ?_); (refine z05 rfl 27 (.tmp 3) rfl w2.heap.size 0 rfl [.int .i64 1, .bool v.big, .int .u32 0, .int .i64 0, .int .u32 0, .int .i64 0, .int .u64 0, .int .u32 0, .slice none 0 0, .slice none 0 0, .slice v.oad v.on v.oc] _ (z3a (z1e HY.out) rfl) Try.underlying27 rfl z0d ?_); simp only [PT])
 | ((with_reducible show wpList _ _ _ (⟨none, .store _ _ (.tmp 69), _, _, _, _⟩ :: _) _ _); (refine z02 (T := 27) (old := zeroC) rfl 27 (.tmp 2) (.tmp 69) rfl w1.heap.size (List.toArray [.int .i64 1, .bool v.big, .int .u32 0, .int .i64 0, .int .u32 0, .int .i64 0, .int .u64 0, .int .u32 0, .slice none 0 0, .slice none 0 0, .slice v.oad v.on v.oc]) rfl rfl (z0p HNE.out HR.out) z0d rfl (by simp only [List.all_toArray, List.all_cons, List.all_nil, Bool.and_true, Bool.and_eq_true]; exact ⟨rfl, rfl, rfl, rfl, rfl, rfl, rfl, rfl, rfl, rfl, rfl⟩) ?_); intro w9 hg9 hgr9; have HR9 := Hd hg9; have hb9 : Below w.heap.size w w9 := Below.grown (by repeat (first | exact HB.out | refine Below.drew ?_ | refine Below.setCell ?_ HZ2.out _)) hgr9 (by simp [World.setCell]; exact HB.out.size) (fun k e => by cases e; exact HZ1.out); have HB9 := Hd hb9; clear hg9 hgr9 hb9; simp only [PT]))
    all_goals
      rw [E.out]
      refine z1w (cs := [.int .i64 1, .bool v.big, .int .u32 0, .int .i64 0, .int .u32 0, .int .i64 0, .int .u64 0, .int .u32 0, .slice none 0 0, .slice none 0 0, .slice v.oad v.on v.oc]) rfl rfl (z00 HR9.out) Try.underlying27 rfl z0d rfl ?_
      exact ⟨rfl, HB9.out⟩
  · clear h1 h7
    have E : Hid (C = [.int .i64 2, .bool false, .int .u32 0, .int .i64 v.link, .int .u32 (v.snap : Int), .int .i64 0, .int .u64 0, .int .u32 0, .slice none 0 0, .slice none 0 0, .slice v.oad v.on v.oc]) := Hd (by rw [HC.out]; unfold onlyV; rw [← HK.out]; rfl)
    go_enter Try.func69, Try.ntmps69
    go_wp2_with (first
 | ((with_reducible refine sl 1 ?_); (refine z1f rfl 27 (.tmp 0) rfl v.cells.toArray rfl ?_); intro w1 hg1 hb1; have HX := Hd hg1; have hE__ := cU HB bup hb1; replace HB := ck HB hE__; clear hE__; have HZ1 := Hd HB.out.size; clear hg1 hb1; simp only [PT])
 | ((with_reducible refine sl 2 ?_); (refine z2r rfl 27 rfl zeroC 11 z1s ?_); intro w2 hg2 hb2; have HR := Hd hg2; have hE__ := cU HB bup hb2; replace HB := ck HB hE__; replace HX := ck HX hE__; clear hE__; have HZ2 := Hd HB.out.size; clear hg2 hb2; obtain ⟨c0, c1, c2, c3, c4, c5, c6, c7, c8, c9, c10⟩ := z03 HX.out; rw [← HK.out] at c0; simp only [PT])
 | ((with_reducible refine sl 3 ?_); clear c0 c1 c2 c3 c4 c5 c6 c7 c8 c9 c10; (refine z3c rfl rfl 27 rfl (.tmp 3) (.tmp 8) rfl #[.int .i64 2, .bool false, .int .u32 0, .int .i64 0, .int .u32 0, .int .i64 0, .int .u64 0, .int .u32 0, .slice none 0 0, .slice none 0 0, .slice v.oad v.on v.oc] zeroC (by kernel_rfl) rfl (by simp only [List.all_toArray, List.all_cons, List.all_nil, Bool.and_true, Bool.and_eq_true]; exact ⟨rfl, rfl, rfl, rfl, rfl, rfl, rfl, rfl, rfl, rfl, rfl⟩) (fun _ => rfl) (fun _ => rfl) ?_); intro w3 hg3 hb3; have HY := Hd hg3; have HNE := Hd (Nat.ne_of_lt (lt_of_block HR.out)); have hE__ := cU HB bup hb3; replace HB := ck HB hE__; replace HX := ck HX hE__; replace HR := ck HR hE__; clear hE__; clear hg3 hb3; obtain ⟨c0, c1, c2, c3, c4, c5, c6, c7, c8, c9, c10⟩ := z03 HX.out; rw [← HK.out] at c0; obtain ⟨y0, y1, y2, y3, y4, y5, y6, y7, y8, y9, y10⟩ := cells11 HY.out; have f3 := frz HY.out 3; have f4 := frz HY.out 4; simp only [PT]))
    go_region
    all_goals
      go_wp2_with (first
 | ((with_reducible refine sl 69 ?_); (refine z05 rfl 27 (.tmp 3) rfl w2.heap.size 0 rfl [.int .i64 2, .bool false, .int .u32 0, .int .i64 v.link, .int .u32 (v.snap : Int), .int .i64 0, .int .u64 0, .int .u32 0, .slice none 0 0, .slice none 0 0, .slice v.oad v.on v.oc] _ (z3a (z1e (z1e HY.out)) rfl) Try.underlying27 rfl z0d ?_); simp only [PT])
 | ((with_reducible show wpList _ _ _ (⟨none, .store _ _ (.tmp 69), _, _, _, _⟩ :: _) _ _); (refine z02 (T := 27) (old := zeroC) rfl 27 (.tmp 2) (.tmp 69) rfl w1.heap.size (List.toArray [.int .i64 2, .bool false, .int .u32 0, .int .i64 v.link, .int .u32 (v.snap : Int), .int .i64 0, .int .u64 0, .int .u32 0, .slice none 0 0, .slice none 0 0, .slice v.oad v.on v.oc]) rfl rfl (z0p HNE.out (z0p HNE.out HR.out)) z0d rfl (by simp only [List.all_toArray, List.all_cons, List.all_nil, Bool.and_true, Bool.and_eq_true]; exact ⟨rfl, rfl, rfl, rfl, rfl, rfl, rfl, rfl, rfl, rfl, rfl⟩) ?_); intro w9 hg9 hgr9; have HR9 := Hd hg9; have hb9 : Below w.heap.size w w9 := Below.grown (by repeat (first | exact HB.out | refine Below.drew ?_ | refine Below.setCell ?_ HZ2.out _)) hgr9 (by simp [World.setCell]; exact HB.out.size) (fun k e => by cases e; exact HZ1.out); have HB9 := Hd hb9; clear hg9 hgr9 hb9; simp only [PT]))
    all_goals
      rw [E.out]
      refine z1w (cs := [.int .i64 2, .bool false, .int .u32 0, .int .i64 v.link, .int .u32 (v.snap : Int), .int .i64 0, .int .u64 0, .int .u32 0, .slice none 0 0, .slice none 0 0, .slice v.oad v.on v.oc]) rfl rfl (z00 HR9.out) Try.underlying27 rfl z0d rfl ?_
      exact ⟨rfl, HB9.out⟩
  · clear h1 h7
    have E : Hid (C = [.int .i64 3, .bool false, .int .u32 0, .int .i64 0, .int .u32 0, .int .i64 v.iface, .int .u64 (v.time : Int), .int .u32 (v.len : Int), .slice v.dad v.dn v.dc, .slice none 0 0, .slice v.oad v.on v.oc]) := Hd (by rw [HC.out]; unfold onlyV; rw [← HK.out]; rfl)
    go_enter Try.func69, Try.ntmps69
    go_wp2_with (first
 | ((with_reducible refine sl 1 ?_); (refine z1f rfl 27 (.tmp 0) rfl v.cells.toArray rfl ?_); intro w1 hg1 hb1; have HX := Hd hg1; have hE__ := cU HB bup hb1; replace HB := ck HB hE__; clear hE__; have HZ1 := Hd HB.out.size; clear hg1 hb1; simp only [PT])
 | ((with_reducible refine sl 2 ?_); (refine z2r rfl 27 rfl zeroC 11 z1s ?_); intro w2 hg2 hb2; have HR := Hd hg2; have hE__ := cU HB bup hb2; replace HB := ck HB hE__; replace HX := ck HX hE__; clear hE__; have HZ2 := Hd HB.out.size; clear hg2 hb2; obtain ⟨c0, c1, c2, c3, c4, c5, c6, c7, c8, c9, c10⟩ := z03 HX.out; rw [← HK.out] at c0; simp only [PT])
 | ((with_reducible refine sl 3 ?_); clear c0 c1 c2 c3 c4 c5 c6 c7 c8 c9 c10; (refine z3c rfl rfl 27 rfl (.tmp 3) (.tmp 8) rfl #[.int .i64 3, .bool false, .int .u32 0, .int .i64 0, .int .u32 0, .int .i64 0, .int .u64 0, .int .u32 0, .slice none 0 0, .slice none 0 0, .slice v.oad v.on v.oc] zeroC (by kernel_rfl) rfl (by simp only [List.all_toArray, List.all_cons, List.all_nil, Bool.and_true, Bool.and_eq_true]; exact ⟨rfl, rfl, rfl, rfl, rfl, rfl, rfl, rfl, rfl, rfl, rfl⟩) (fun _ => rfl) (fun _ => rfl) ?_); intro w3 hg3 hb3; have HY := Hd hg3; have HNE := Hd (Nat.ne_of_lt (lt_of_block HR.out)); have hE__ := cU HB bup hb3; replace HB := ck HB hE__; replace HX := ck HX hE__; replace HR := ck HR hE__; clear hE__; clear hg3 hb3; obtain ⟨c0, c1, c2, c3, c4, c5, c6, c7, c8, c9, c10⟩ := z03 HX.out; rw [← HK.out] at c0; obtain ⟨y0, y1, y2, y3, y4, y5, y6, y7, y8, y9, y10⟩ := cells11 HY.out; have f5 := frz HY.out 5; have f6 := frz HY.out 6; have f7 := frz HY.out 7; have f8 := frz HY.out 8; simp only [PT]))
    go_region
    all_goals
      go_wp2_with (first
 | ((with_reducible refine sl 69 ?_); (refine z05 rfl 27 (.tmp 3) rfl w2.heap.size 0 rfl [.int .i64 3, .bool false, .int .u32 0, .int .i64 0, .int .u32 0, .int .i64 v.iface, .int .u64 (v.time : Int), .int .u32 (v.len : Int), .slice v.dad v.dn v.dc, .slice none 0 0, .slice v.oad v.on v.oc] _ (z3a (z1e (z1e (z1e (z1e HY.out)))) rfl) Try.underlying27 rfl z0d ?_); simp only [PT])
 | ((with_reducible show wpList _ _ _ (⟨none, .store _ _ (.tmp 69), _, _, _, _⟩ :: _) _ _); (refine z02 (T := 27) (old := zeroC) rfl 27 (.tmp 2) (.tmp 69) rfl w1.heap.size (List.toArray [.int .i64 3, .bool false, .int .u32 0, .int .i64 0, .int .u32 0, .int .i64 v.iface, .int .u64 (v.time : Int), .int .u32 (v.len : Int), .slice v.dad v.dn v.dc, .slice none 0 0, .slice v.oad v.on v.oc]) rfl rfl (z0p HNE.out (z0p HNE.out (z0p HNE.out (z0p HNE.out HR.out)))) z0d rfl (by simp only [List.all_toArray, List.all_cons, List.all_nil, Bool.and_true, Bool.and_eq_true]; exact ⟨rfl, rfl, rfl, rfl, rfl, rfl, rfl, rfl, rfl, rfl, rfl⟩) ?_); intro w9 hg9 hgr9; have HR9 := Hd hg9; have hb9 : Below w.heap.size w w9 := Below.grown (by repeat (first | exact HB.out | refine Below.drew ?_ | refine Below.setCell ?_ HZ2.out _)) hgr9 (by simp [World.setCell]; exact HB.out.size) (fun k e => by cases e; exact HZ1.out); have HB9 := Hd hb9; clear hg9 hgr9 hb9; simp only [PT]))
    all_goals
      rw [E.out]
      refine z1w (cs := [.int .i64 3, .bool false, .int .u32 0, .int .i64 0, .int .u32 0, .int .i64 v.iface, .int .u64 (v.time : Int), .int .u32 (v.len : Int), .slice v.dad v.dn v.dc, .slice none 0 0, .slice v.oad v.on v.oc]) rfl rfl (z00 HR9.out) Try.underlying27 rfl z0d rfl ?_
      exact ⟨rfl, HB9.out⟩
  · clear h1 h7
    have E : Hid (C = [.int .i64 4, .bool false, .int .u32 0, .int .i64 0, .int .u32 0, .int .i64 0, .int .u64 0, .int .u32 (v.len : Int), .slice v.dad v.dn v.dc, .slice none 0 0, .slice none 0 0]) := Hd (by rw [HC.out]; unfold onlyV; rw [← HK.out]; rfl)
    go_enter Try.func69, Try.ntmps69
    go_wp2_with (first
 | ((with_reducible refine sl 1 ?_); (refine z1f rfl 27 (.tmp 0) rfl v.cells.toArray rfl ?_); intro w1 hg1 hb1; have HX := Hd hg1; have hE__ := cU HB bup hb1; replace HB := ck HB hE__; clear hE__; have HZ1 := Hd HB.out.size; clear hg1 hb1; simp only [PT])
 | ((with_reducible refine sl 2 ?_); (refine z2r rfl 27 rfl zeroC 11 z1s ?_); intro w2 hg2 hb2; have HR := Hd hg2; have hE__ := cU HB bup hb2; replace HB := ck HB hE__; replace HX := ck HX hE__; clear hE__; have HZ2 := Hd HB.out.size; clear hg2 hb2; obtain ⟨c0, c1, c2, c3, c4, c5, c6, c7, c8, c9, c10⟩ := z03 HX.out; rw [← HK.out] at c0; simp only [PT])
 | ((with_reducible refine sl 3 ?_); clear c0 c1 c2 c3 c4 c5 c6 c7 c8 c9 c10; (refine z3c rfl rfl 27 rfl (.tmp 3) (.tmp 8) rfl #[.int .i64 4, .bool false, .int .u32 0, .int .i64 0, .int .u32 0, .int .i64 0, .int .u64 0, .int .u32 0, .slice none 0 0, .slice none 0 0, .slice v.oad v.on v.oc] zeroC (by kernel_rfl) rfl (by simp only [List.all_toArray, List.all_cons, List.all_nil, Bool.and_true, Bool.and_eq_true]; exact ⟨rfl, rfl, rfl, rfl, rfl, rfl, rfl, rfl, rfl, rfl, rfl⟩) (fun _ => rfl) (fun _ => rfl) ?_); intro w3 hg3 hb3; have HY := Hd hg3; have HNE := Hd (Nat.ne_of_lt (lt_of_block HR.out)); have hE__ := cU HB bup hb3; replace HB := ck HB hE__; replace HX := ck HX hE__; replace HR := ck HR hE__; clear hE__; clear hg3 hb3; obtain ⟨c0, c1, c2, c3, c4, c5, c6, c7, c8, c9, c10⟩ := z03 HX.out; rw [← HK.out] at c0; obtain ⟨y0, y1, y2, y3, y4, y5, y6, y7, y8, y9, y10⟩ := cells11 HY.out; have f7 := frz HY.out 7; have f8 := frz HY.out 8; have f10 := frz HY.out 10; simp only [PT]))
    go_region
    all_goals
      go_wp2_with (first
 | ((with_reducible refine sl 69 ?_); (refine z05 rfl 27 (.tmp 3) rfl w2.heap.size 0 rfl [.int .i64 4, .bool false, .int .u32 0, .int .i64 0, .int .u32 0, .int .i64 0, .int .u64 0, .int .u32 (v.len : Int), .slice v.dad v.dn v.dc, .slice none 0 0, .slice none 0 0] _ (z3a (z1e (z1e (z1e HY.out))) rfl) Try.underlying27 rfl z0d ?_); simp only [PT])
 | ((with_reducible show wpList _ _ _ (⟨none, .store _ _ (.tmp 69), _, _, _, _⟩ :: _) _ _); (refine z02 (T := 27) (old := zeroC) rfl 27 (.tmp 2) (.tmp 69) rfl w1.heap.size (List.toArray [.int .i64 4, .bool false, .int .u32 0, .int .i64 0, .int .u32 0, .int .i64 0, .int .u64 0, .int .u32 (v.len : Int), .slice v.dad v.dn v.dc, .slice none 0 0, .slice none 0 0]) rfl rfl (z0p HNE.out (z0p HNE.out (z0p HNE.out HR.out))) z0d rfl (by simp only [List.all_toArray, List.all_cons, List.all_nil, Bool.and_true, Bool.and_eq_true]; exact ⟨rfl, rfl, rfl, rfl, rfl, rfl, rfl, rfl, rfl, rfl, rfl⟩) ?_); intro w9 hg9 hgr9; have HR9 := Hd hg9; have hb9 : Below w.heap.size w w9 := Below.grown (by repeat (first | exact HB.out | refine Below.drew ?_ | refine Below.setCell ?_ HZ2.out _)) hgr9 (by simp [World.setCell]; exact HB.out.size) (fun k e => by cases e; exact HZ1.out); have HB9 := Hd hb9; clear hg9 hgr9 hb9; simp only [PT]))
    all_goals
      rw [E.out]
      refine z1w (cs := [.int .i64 4, .bool false, .int .u32 0, .int .i64 0, .int .u32 0, .int .i64 0, .int .u64 0, .int .u32 (v.len : Int), .slice v.dad v.dn v.dc, .slice none 0 0, .slice none 0 0]) rfl rfl (z00 HR9.out) Try.underlying27 rfl z0d rfl ?_
      exact ⟨rfl, HB9.out⟩
  · clear h1 h7
    have E : Hid (C = [.int .i64 5, .bool false, .int .u32 0, .int .i64 0, .int .u32 0, .int .i64 0, .int .u64 0, .int .u32 0, .slice none 0 0, .slice v.nad v.nn v.nc, .slice v.oad v.on v.oc]) := Hd (by rw [HC.out]; unfold onlyV; rw [← HK.out]; rfl)
    go_enter Try.func69, Try.ntmps69
    go_wp2_with (first
 | ((with_reducible refine sl 1 ?_); (refine z1f rfl 27 (.tmp 0) rfl v.cells.toArray rfl ?_); intro w1 hg1 hb1; have HX := Hd hg1; have hE__ := cU HB bup hb1; replace HB := ck HB hE__; clear hE__; have HZ1 := Hd HB.out.size; clear hg1 hb1; simp only [PT])
 | ((with_reducible refine sl 2 ?_); (refine z2r rfl 27 rfl zeroC 11 z1s ?_); intro w2 hg2 hb2; have HR := Hd hg2; have hE__ := cU HB bup hb2; replace HB := ck HB hE__; replace HX := ck HX hE__; clear hE__; have HZ2 := Hd HB.out.size; clear hg2 hb2; obtain ⟨c0, c1, c2, c3, c4, c5, c6, c7, c8, c9, c10⟩ := z03 HX.out; rw [← HK.out] at c0; simp only [PT])
 | ((with_reducible refine sl 3 ?_); clear c0 c1 c2 c3 c4 c5 c6 c7 c8 c9 c10; (refine z3c rfl rfl 27 rfl (.tmp 3) (.tmp 8) rfl #[.int .i64 5, .bool false, .int .u32 0, .int .i64 0, .int .u32 0, .int .i64 0, .int .u64 0, .int .u32 0, .slice none 0 0, .slice none 0 0, .slice v.oad v.on v.oc] zeroC (by kernel_rfl) rfl (by simp only [List.all_toArray, List.all_cons, List.all_nil, Bool.and_true, Bool.and_eq_true]; exact ⟨rfl, rfl, rfl, rfl, rfl, rfl, rfl, rfl, rfl, rfl, rfl⟩) (fun _ => rfl) (fun _ => rfl) ?_); intro w3 hg3 hb3; have HY := Hd hg3; have HNE := Hd (Nat.ne_of_lt (lt_of_block HR.out)); have hE__ := cU HB bup hb3; replace HB := ck HB hE__; replace HX := ck HX hE__; replace HR := ck HR hE__; clear hE__; clear hg3 hb3; obtain ⟨c0, c1, c2, c3, c4, c5, c6, c7, c8, c9, c10⟩ := z03 HX.out; rw [← HK.out] at c0; obtain ⟨y0, y1, y2, y3, y4, y5, y6, y7, y8, y9, y10⟩ := cells11 HY.out; have f9 := frz HY.out 9; simp only [PT])
 | ((with_reducible refine sl 69 ?_); (refine z05 rfl 27 (.tmp 3) rfl w2.heap.size 0 rfl [.int .i64 5, .bool false, .int .u32 0, .int .i64 0, .int .u32 0, .int .i64 0, .int .u64 0, .int .u32 0, .slice none 0 0, .slice v.nad v.nn v.nc, .slice v.oad v.on v.oc] _ (z3a (z1e HY.out) rfl) Try.underlying27 rfl z0d ?_); simp only [PT])
 | ((with_reducible show wpList _ _ _ (⟨none, .store _ _ (.tmp 69), _, _, _, _⟩ :: _) _ _); (refine z02 (T := 27) (old := zeroC) rfl 27 (.tmp 2) (.tmp 69) rfl w1.heap.size (List.toArray [.int .i64 5, .bool false, .int .u32 0, .int .i64 0, .int .u32 0, .int .i64 0, .int .u64 0, .int .u32 0, .slice none 0 0, .slice v.nad v.nn v.nc, .slice v.oad v.on v.oc]) rfl rfl (z0p HNE.out HR.out) z0d rfl (by simp only [List.all_toArray, List.all_cons, List.all_nil, Bool.and_true, Bool.and_eq_true]; exact ⟨rfl, rfl, rfl, rfl, rfl, rfl, rfl, rfl, rfl, rfl, rfl⟩) ?_); intro w9 hg9 hgr9; have HR9 := Hd hg9; have hb9 : Below w.heap.size w w9 := Below.grown (by repeat (first | exact HB.out | refine Below.drew ?_ | refine Below.setCell ?_ HZ2.out _)) hgr9 (by simp [World.setCell]; exact HB.out.size) (fun k e => by cases e; exact HZ1.out); have HB9 := Hd hb9; clear hg9 hgr9 hb9; simp only [PT]))
    all_goals
      rw [E.out]
      refine z1w (cs := [.int .i64 5, .bool false, .int .u32 0, .int .i64 0, .int .u32 0, .int .i64 0, .int .u64 0, .int .u32 0, .slice none 0 0, .slice v.nad v.nn v.nc, .slice v.oad v.on v.oc]) rfl rfl (z00 HR9.out) Try.underlying27 rfl z0d rfl ?_
      exact ⟨rfl, HB9.out⟩
  · clear h1 h7
    have E : Hid (C = [.int .i64 6, .bool false, .int .u32 0, .int .i64 0, .int .u32 0, .int .i64 v.iface, .int .u64 (v.time : Int), .int .u32 0, .slice none 0 0, .slice none 0 0, .slice v.oad v.on v.oc]) := Hd (by rw [HC.out]; unfold onlyV; rw [← HK.out]; rfl)
    go_enter Try.func69, Try.ntmps69
    go_wp2_with (first
 | ((with_reducible refine sl 1 ?_); (refine z1f rfl 27 (.tmp 0) rfl v.cells.toArray rfl ?_); intro w1 hg1 hb1; have HX := Hd hg1; have hE__ := cU HB bup hb1; replace HB := ck HB hE__; clear hE__; have HZ1 := Hd HB.out.size; clear hg1 hb1; simp only [PT])
 | ((with_reducible refine sl 2 ?_); (refine z2r rfl 27 rfl zeroC 11 z1s ?_); intro w2 hg2 hb2; have HR := Hd hg2; have hE__ := cU HB bup hb2; replace HB := ck HB hE__; replace HX := ck HX hE__; clear hE__; have HZ2 := Hd HB.out.size; clear hg2 hb2; obtain ⟨c0, c1, c2, c3, c4, c5, c6, c7, c8, c9, c10⟩ := z03 HX.out; rw [← HK.out] at c0; simp only [PT])
 | ((with_reducible refine sl 3 ?_); clear c0 c1 c2 c3 c4 c5 c6 c7 c8 c9 c10; (refine z3c rfl rfl 27 rfl (.tmp 3) (.tmp 8) rfl #[.int .i64 6, .bool false, .int .u32 0, .int .i64 0, .int .u32 0, .int .i64 0, .int .u64 0, .int .u32 0, .slice none 0 0, .slice none 0 0, .slice v.oad v.on v.oc] zeroC (by kernel_rfl) rfl (by simp only [List.all_toArray, List.all_cons, List.all_nil, Bool.and_true, Bool.and_eq_true]; exact ⟨rfl, rfl, rfl, rfl, rfl, rfl, rfl, rfl, rfl, rfl, rfl⟩) (fun _ => rfl) (fun _ => rfl) ?_); intro w3 hg3 hb3; have HY := Hd hg3; have HNE := Hd (Nat.ne_of_lt (lt_of_block HR.out)); have hE__ := cU HB bup hb3; replace HB := ck HB hE__; replace HX := ck HX hE__; replace HR := ck HR hE__; clear hE__; clear hg3 hb3; obtain ⟨c0, c1, c2, c3, c4, c5, c6, c7, c8, c9, c10⟩ := z03 HX.out; rw [← HK.out] at c0; obtain ⟨y0, y1, y2, y3, y4, y5, y6, y7, y8, y9, y10⟩ := cells11 HY.out; have f5 := frz HY.out 5; have f6 := frz HY.out 6; simp only [PT]))
    go_region
    all_goals
      go_wp2_with (first
 | ((with_reducible refine sl 69 ?_); (refine z05 rfl 27 (.tmp 3) rfl w2.heap.size 0 rfl [.int .i64 6, .bool false, .int .u32 0, .int .i64 0, .int .u32 0, .int .i64 v.iface, .int .u64 (v.time : Int), .int .u32 0, .slice none 0 0, .slice none 0 0, .slice v.oad v.on v.oc] _ (z3a (z1e (z1e HY.out)) rfl) Try.underlying27 rfl z0d ?_); simp only [PT])
 | ((with_reducible show wpList _ _ _ (⟨none, .store _ _ (.tmp 69), _, _, _, _⟩ :: _) _ _); (refine z02 (T := 27) (old := zeroC) rfl 27 (.tmp 2) (.tmp 69) rfl w1.heap.size (List.toArray [.int .i64 6, .bool false, .int .u32 0, .int .i64 0, .int .u32 0, .int .i64 v.iface, .int .u64 (v.time : Int), .int .u32 0, .slice none 0 0, .slice none 0 0, .slice v.oad v.on v.oc]) rfl rfl (z0p HNE.out (z0p HNE.out HR.out)) z0d rfl (by simp only [List.all_toArray, List.all_cons, List.all_nil, Bool.and_true, Bool.and_eq_true]; exact ⟨rfl, rfl, rfl, rfl, rfl, rfl, rfl, rfl, rfl, rfl, rfl⟩) ?_); intro w9 hg9 hgr9; have HR9 := Hd hg9; have hb9 : Below w.heap.size w w9 := Below.grown (by repeat (first | exact HB.out | refine Below.drew ?_ | refine Below.setCell ?_ HZ2.out _)) hgr9 (by simp [World.setCell]; exact HB.out.size) (fun k e => by cases e; exact HZ1.out); have HB9 := Hd hb9; clear hg9 hgr9 hb9; simp only [PT]))
    all_goals
      rw [E.out]
      refine z1w (cs := [.int .i64 6, .bool false, .int .u32 0, .int .i64 0, .int .u32 0, .int .i64 v.iface, .int .u64 (v.time : Int), .int .u32 0, .slice none 0 0, .slice none 0 0, .slice v.oad v.on v.oc]) rfl rfl (z00 HR9.out) Try.underlying27 rfl z0d rfl ?_
      exact ⟨rfl, HB9.out⟩
  · clear h1 h7
    have E : Hid (C = [.int .i64 7, .bool false, .int .u32 (v.type : Int), .int .i64 0, .int .u32 0, .int .i64 0, .int .u64 0, .int .u32 0, .slice v.dad v.dn v.dc, .slice none 0 0, .slice none 0 0]) := Hd (by rw [HC.out]; unfold onlyV; rw [← HK.out]; rfl)
    go_enter Try.func69, Try.ntmps69
    go_wp2_with (first
 | ((with_reducible refine sl 1 ?_); (refine z1f rfl 27 (.tmp 0) rfl v.cells.toArray rfl ?_); intro w1 hg1 hb1; have HX := Hd hg1; have hE__ := cU HB bup hb1; replace HB := ck HB hE__; clear hE__; have HZ1 := Hd HB.out.size; clear hg1 hb1; simp only [PT])
 | ((with_reducible refine sl 2 ?_); (refine z2r rfl 27 rfl zeroC 11 z1s ?_); intro w2 hg2 hb2; have HR := Hd hg2; have hE__ := cU HB bup hb2; replace HB := ck HB hE__; replace HX := ck HX hE__; clear hE__; have HZ2 := Hd HB.out.size; clear hg2 hb2; obtain ⟨c0, c1, c2, c3, c4, c5, c6, c7, c8, c9, c10⟩ := z03 HX.out; rw [← HK.out] at c0; simp only [PT])
 | ((with_reducible refine sl 3 ?_); clear c0 c1 c2 c3 c4 c5 c6 c7 c8 c9 c10; (refine z3c rfl rfl 27 rfl (.tmp 3) (.tmp 8) rfl #[.int .i64 7, .bool false, .int .u32 0, .int .i64 0, .int .u32 0, .int .i64 0, .int .u64 0, .int .u32 0, .slice none 0 0, .slice none 0 0, .slice v.oad v.on v.oc] zeroC (by kernel_rfl) rfl (by simp only [List.all_toArray, List.all_cons, List.all_nil, Bool.and_true, Bool.and_eq_true]; exact ⟨rfl, rfl, rfl, rfl, rfl, rfl, rfl, rfl, rfl, rfl, rfl⟩) (fun _ => rfl) (fun _ => rfl) ?_); intro w3 hg3 hb3; have HY := Hd hg3; have HNE := Hd (Nat.ne_of_lt (lt_of_block HR.out)); have hE__ := cU HB bup hb3; replace HB := ck HB hE__; replace HX := ck HX hE__; replace HR := ck HR hE__; clear hE__; clear hg3 hb3; obtain ⟨c0, c1, c2, c3, c4, c5, c6, c7, c8, c9, c10⟩ := z03 HX.out; rw [← HK.out] at c0; obtain ⟨y0, y1, y2, y3, y4, y5, y6, y7, y8, y9, y10⟩ := cells11 HY.out; have f2 := frz HY.out 2; have f8 := frz HY.out 8; have f10 := frz HY.out 10; simp only [PT]))
    go_region
    all_goals
      go_wp2_with (first
 | ((with_reducible refine sl 69 ?_); (refine z05 rfl 27 (.tmp 3) rfl w2.heap.size 0 rfl [.int .i64 7, .bool false, .int .u32 (v.type : Int), .int .i64 0, .int .u32 0, .int .i64 0, .int .u64 0, .int .u32 0, .slice v.dad v.dn v.dc, .slice none 0 0, .slice none 0 0] _ (z3a (z1e (z1e (z1e HY.out))) rfl) Try.underlying27 rfl z0d ?_); simp only [PT])
 | ((with_reducible show wpList _ _ _ (⟨none, .store _ _ (.tmp 69), _, _, _, _⟩ :: _) _ _); (refine z02 (T := 27) (old := zeroC) rfl 27 (.tmp 2) (.tmp 69) rfl w1.heap.size (List.toArray [.int .i64 7, .bool false, .int .u32 (v.type : Int), .int .i64 0, .int .u32 0, .int .i64 0, .int .u64 0, .int .u32 0, .slice v.dad v.dn v.dc, .slice none 0 0, .slice none 0 0]) rfl rfl (z0p HNE.out (z0p HNE.out (z0p HNE.out HR.out))) z0d rfl (by simp only [List.all_toArray, List.all_cons, List.all_nil, Bool.and_true, Bool.and_eq_true]; exact ⟨rfl, rfl, rfl, rfl, rfl, rfl, rfl, rfl, rfl, rfl, rfl⟩) ?_); intro w9 hg9 hgr9; have HR9 := Hd hg9; have hb9 : Below w.heap.size w w9 := Below.grown (by repeat (first | exact HB.out | refine Below.drew ?_ | refine Below.setCell ?_ HZ2.out _)) hgr9 (by simp [World.setCell]; exact HB.out.size) (fun k e => by cases e; exact HZ1.out); have HB9 := Hd hb9; clear hg9 hgr9 hb9; simp only [PT]))
    all_goals
      rw [E.out]
      refine z1w (cs := [.int .i64 7, .bool false, .int .u32 (v.type : Int), .int .i64 0, .int .u32 0, .int .i64 0, .int .u64 0, .int .u32 0, .slice v.dad v.dn v.dc, .slice none 0 0, .slice none 0 0]) rfl rfl (z00 HR9.out) Try.underlying27 rfl z0d rfl ?_
      exact ⟨rfl, HB9.out⟩
theorem cGg {w wd w1 : World} {k g : Nat} {ob : Obj} (h : Hid (w.heap[k]? = some ob)) (hE : Below w.heap.size w wd) (hg : wd.grownBy w1 (some g)) (hne : k ≠ g) : Hid (w1.heap[k]? = some ob) :=
  Hd ((hg.block k (Nat.lt_of_lt_of_le (lt_of_block h.out) hE.size) (fun e => hne (by cases e; rfl))).trans ((hE.block k (lt_of_block h.out)).trans h.out))
theorem cKg {v w wd w1 : World} {g : Nat} (h : Hid (Below v.heap.size v w)) (hE : Below w.heap.size w wd) (hg : wd.grownBy w1 (some g)) (hb : v.heap.size ≤ g) : Hid (Below v.heap.size v w1) :=
  Hd ((h.out.trans (hE.mono h.out.size)).grown hg (Nat.le_trans h.out.size hE.size) (fun k e => by cases e; exact hb))
theorem cOg {w wd w1 : World} {base g : Nat} {e : TypeId} {size : Nat} {ad : Option Addr} {n c : Nat} {xs : List Value} (h : Hid (w.ownsRow base e size (.slice ad n c) n xs)) (hE : Below w.heap.size w wd) (hg : wd.grownBy w1 (some g)) (hb : g < base) : Hid (w1.ownsRow base e size (.slice ad n c) n xs) := by
  have h' := z08 h.out hE
  refine Hd (h'.kept hg ?_)
  rcases z29 h' with ⟨h0, _⟩ | ⟨g', h1, h2, _⟩
  · rw [h0]; exact .inl rfl
  · rw [h1]
    refine .inr fun e => ?_
    simp [Value.ownBlock] at e
    omega
theorem cPg {w wd w1 : World} {base g : Nat} {e : TypeId} {ad : Option Addr} {n c : Nat} {os : List OptV} (h : Hid (OwnOps e base w ad n c os)) (hE : Below w.heap.size w wd) (hg : wd.grownBy w1 (some g)) (hb : g < base) : Hid (OwnOps e base w1 ad n c os) :=
  Hd ((h.out.keep hE).other hg hb)
instance {w w1 : World} {k g : Nat} {ob : Obj} : Cg (w.heap[k]? = some ob) w1 g w (k ≠ g) (w1.heap[k]? = some ob) := ⟨fun wd h hE hg hs => (cGg (Hd h) hE hg hs).out⟩
instance {v w w1 : World} {g : Nat} : Cg (Below v.heap.size v w) w1 g w (v.heap.size ≤ g) (Below v.heap.size v w1) := ⟨fun wd h hE hg hs => (cKg (Hd h) hE hg hs).out⟩
instance {w w1 : World} {base g : Nat} {e : TypeId} {size : Nat} {ad : Option Addr} {n c : Nat} {xs : List Value} : Cg (w.ownsRow base e size (.slice ad n c) n xs) w1 g w (g < base) (w1.ownsRow base e size (.slice ad n c) n xs) := ⟨fun wd h hE hg hs => (cOg (Hd h) hE hg hs).out⟩
instance {w w1 : World} {base g : Nat} {e : TypeId} {ad : Option Addr} {n c : Nat} {os : List OptV} : Cg (OwnOps e base w ad n c os) w1 g w (g < base) (OwnOps e base w1 ad n c os) := ⟨fun wd h hE hg hs => (cPg (Hd h) hE hg hs).out⟩
theorem z0a {P : Program} {w : World} {ops : Array Oper} {rest : List Oper} {o : Oper} {a : Act} {Q : Exit → Act → World → Prop} (hgd : Region.wanted o (yielded ops a.tmps) = true) (T : TypeId) (x : Operand) (ho : o.op = .box T x) (cs : Array Value) (hx : (a.eval x).cells = cs)
    (h : ∀ w1 g, Hid (g = w.heap.size) → w.heap.size ≤ g → g < w1.heap.size → w1.heap[g]? = some (.cells cs T (0, 0)) → Below w.heap.size w w1 → wpList P ops Q rest (a.put o.dst (.pointer (some ⟨g, 0, none⟩))) w1) : wpList P ops Q (o :: rest) a w := by
  refine z23 hgd (v := .pointer (some ⟨w.heap.size, 0, none⟩)) (w' := w.alloc (.cells cs T)) ?_ (h _ _ (Hd rfl) (Nat.le_refl _) (by simp) (heap_alloc_last w _) ((Below.refl _ _).alloc (Nat.le_refl _) _))
  simp [execOp, ho, Instr.box, newVar, newRow, hx]
theorem z09 {P : Program} {w : World} {ops : Array Oper} {rest : List Oper} {o : Oper} {a : Act} {Q : Exit → Act → World → Prop} (hgd : Region.wanted o (yielded ops a.tmps) = true) (T : TypeId) (ho : o.op = .alloc T) (z : Value) (zs : Array Value) (n : Nat) (hi : (P.info? T).map (fun i => (i.zero, i.size)) = some (some z, n)) (hz : z.cells = zs)
    (h : ∀ w1 g, Hid (g = w.heap.size) → w.heap.size ≤ g → g < w1.heap.size → w1.heap[g]? = some (.cells zs T (0, 0)) → Below w.heap.size w w1 → wpList P ops Q rest (a.put o.dst (.pointer (some ⟨g, 0, none⟩))) w1) : wpList P ops Q (o :: rest) a w := by
  obtain ⟨hz0, hsz⟩ := zero_of_info hi
  refine z23 hgd (v := .pointer (some ⟨w.heap.size, 0, none⟩)) (w' := w.alloc (.cells zs T)) ?_ (h _ _ (Hd rfl) (Nat.le_refl _) (by simp) (heap_alloc_last w _) ((Below.refl _ _).alloc (Nat.le_refl _) _))
  simp [execOp, ho, Instr.alloc, hz0, newVar, newRow, hz]
theorem run_loadF {P : Program} {w : World} {g k : Nat} {v : Value} {ty T : TypeId} {fz : Nat × Nat} {d : TypeDesc} {cs : Array Value} (hg : w.heap[g]? = some (.cells cs T fz)) (hk : cs[k]? = some v) (hu : P.underlying ty = some d) (hd : d.isRow = false) :
    (loadVar ty ⟨g, k, none⟩).run P w = .ok v w := by
  have hcell : w.cell? ⟨g, k, none⟩ = some v := by rw [z1u hg]; simpa using hk
  have hagg : (isAgg ty).run P w = .ok false w := by
    unfold isAgg
    rw [Sem.run_bind, run_underlying hu w]
    cases d <;> simp_all
  simp [loadVar, Sem.run_bind, hagg, load, Sem.run, hcell]
theorem z01 {P : Program} {ops : Array Oper} {rest : List Oper} {o : Oper} {a : Act} {w : World} {Q : Exit → Act → World → Prop} (hgd : Region.wanted o (yielded ops a.tmps) = true) (ty : TypeId) (x : Operand) (ho : o.op = .load ty x)
    (g k : Nat) (hx : a.eval x = .pointer (some ⟨g, k, none⟩)) (v : Value) {cs : Array Value} {T : TypeId} {fz : Nat × Nat} (hg : w.heap[g]? = some (.cells cs T fz)) (hk : cs[k]? = some v) {d : TypeDesc} (hu : P.underlying ty = some d) (hd : d.isRow = false)
    (h : wpList P ops Q rest (a.put o.dst v) w) : wpList P ops Q (o :: rest) a w := by
  refine z23 hgd ?_ h
  unfold execOp
  simp only [ho, hx, Instr.loadAt, Instr.sureAddr, Sem.run_bind, Sem.run_pure, Result.andThen_ok, run_loadF (P := P) hg hk hu hd]
theorem z0g {P : Program} {ops : Array Oper} {S : World → Prop} {o : Oper} {a : Act} (hw : Region.wanted o (yielded ops a.tmps) = true) (ty : TypeId) (x : Operand) (ho : o.op = .load ty x)
    (g k : Nat) (hx : a.eval x = .pointer (some ⟨g, k, none⟩)) (v : Value) {cs : Array Value} {T : TypeId} {fz : Nat × Nat} (hS : ∀ w, S w → w.heap[g]? = some (.cells cs T fz)) (hk : cs[k]? = some v) {d : TypeDesc} (hu : P.underlying ty = some d) (hd : d.isRow = false) : YieldsIf P ops S o v a :=
  .inl ⟨hw, fun w hw' => by
    unfold execOp
    simp only [ho, hx, Instr.loadAt, Instr.sureAddr, Sem.run_bind, Sem.run_pure, Result.andThen_ok, run_loadF (P := P) (hS w hw') hk hu hd]⟩
theorem z1h {P : Program} {ops : Array Oper} {rest : List Oper} {o : Oper} {a : Act} {w : World} {Q : Exit → Act → World → Prop} (hgd : Region.wanted o (yielded ops a.tmps) = true) {T : TypeId} (x y : Operand) (ho : o.op = .index T x y)
    (vx vy : Value) (hx : a.eval x = vx) (hy : a.eval y = vy) (v : Value) (hrun : ∀ w, (Instr.index T vx vy).run P w = .ok v w) (h : wpList P ops Q rest (a.put o.dst v) w) : wpList P ops Q (o :: rest) a w := by
  refine z23 hgd ?_ h
  unfold execOp
  simp only [ho, hx, hy, Sem.run_bind, hrun, Result.andThen_ok, Sem.run_pure]
theorem all1 (l : List Value) (h : l.all (·.oneCell') = true) : l.toArray.all (·.oneCell') = true := by simpa using h
theorem z0b {P : Program} {w : World} {ops : Array Oper} {rest : List Oper} {o : Oper} {a : Act} {Q : Exit → Act → World → Prop} {t e : TypeId} {size bytes : Nat} {z : Value} (el : Elem P t e size bytes z)
    (hg : Region.wanted o (yielded ops a.tmps) = true) (x : Operand) (lo hi : Option Operand) (hop : o.op = Op.slice t x lo hi none) {ad : Option Addr} {n c : Nat} (hx : a.eval x = .slice ad n c) (l h : Nat)
    (hlo : (lo.map a.eval = none ∧ l = 0) ∨ ∃ k, lo.map a.eval = some (.int k (l : Int))) (hhi : (hi.map a.eval = none ∧ h = n) ∨ ∃ k, hi.map a.eval = some (.int k (h : Int))) (hl : l ≤ h) (hh : h ≤ c)
    (m cc : Nat) (hm : h - l = m) (hcc : c - l = cc)
    (hK : ∀ ad', Hid (ad' = subAd ad c l size) → wpList P ops Q rest (a.put o.dst (.slice ad' m cc)) w) : wpList P ops Q (o :: rest) a w := by
  subst hm
  subst hcc
  exact z0t el hg x lo hi hop hx l h hlo hhi hl hh hK
theorem Bs.partG {w : World} {ad : Option Addr} {n c : Nat} {l : List UInt8} (h : Bs w ad n c l) (i j m cc : Nat) (hij : i ≤ j) (hj : j ≤ n) (hm : j - i = m) (hcc : c - i = cc) (ad' : Option Addr) (had : Hid (ad' = subAd ad c i 1)) (d : List UInt8) (hd : (l.drop i).take m = d) : Bs w ad' m cc d := by
  subst hm
  subst hcc
  rw [had.out, ← hd]
  exact Bs.part h i j hij hj
theorem set_grown (w : World) (g k : Nat) (v : Value) : w.grownBy (w.setCell ⟨g, k, none⟩ v) (some g) :=
  ⟨rfl, rfl, rfl, by simp [World.setCell], fun j _ hj => Below.heap_setCell _ _ _ _ (fun e => hj (by rw [e]))⟩
theorem run_storeF {P : Program} {w : World} {g k : Nat} {v : Value} {ty T : TypeId} {cs : Array Value} (hg : w.heap[g]? = some (.cells cs T (0, 0))) (hk : k < cs.size) (h1 : v.oneCell' = true) (hi : (P.info? ty).map (·.size) = some 1) :
    (Instr.storeAt ty (.pointer (some ⟨g, k, none⟩)) v).run P w = .ok () (w.setCell ⟨g, k, none⟩ v) := by
  have hc : v.cells = #[v] := by cases v <;> first | rfl | cases h1
  have hcell : w.cell? ⟨g, k, none⟩ = some cs[k] := by rw [z1u hg]; simp [hk]
  have hz := frz hg k
  have := run_storeCells_cells (P := P) g k [v] 0 w (fun j hj => by
      have : j = 0 := by simpa using hj
      subst this
      simp [hcell]) (fun j hj => by
      have : j = 0 := by simpa using hj
      subst this
      simpa using hz) (fun u hu => by simp at hu; subst hu; exact h1)
  cases hq : P.info? ty with
  | none => simp [hq] at hi
  | some i =>
    have hs : i.size = 1 := by simpa [hq] using hi
    simp only [Nat.add_zero] at this
    simp [Instr.storeAt, Instr.sureAddr, storeVar, sizeOf, typeInfo, hq, hc, hs, this, World.setCells]
theorem z0c {P : Program} {ops : Array Oper} {rest : List Oper} {o : Oper} {a : Act} {w : World} {Q : Exit → Act → World → Prop} (hgd : o.guard = none) (ty : TypeId) (x y : Operand) (ho : o.op = .store ty x y)
    (g k : Nat) (v : Value) (hx : a.eval x = .pointer (some ⟨g, k, none⟩)) (hy : a.eval y = v) (h1 : v.oneCell' = true) {cs : Array Value} {T : TypeId} (hg : w.heap[g]? = some (.cells cs T (0, 0))) (hk : k < cs.size) (hi : (P.info? ty).map (·.size) = some 1)
    (cs' : Array Value) (he : cs.setIfInBounds k v = cs')
    (h : ∀ w1, w1.heap[g]? = some (.cells cs' T (0, 0)) → w.grownBy w1 (some g) → wpList P ops Q rest (a.put o.dst undef) w1) : wpList P ops Q (o :: rest) a w :=
  wpList_plain hgd fun _ hK => by
    unfold Oper.wp execOp
    simp only [ho, hx, hy, Sem.run_bind, Sem.run_pure, Result.andThen_ok, run_storeF (P := P) hg hk h1 hi]
    exact hK _ _ (h _ (by rw [z1e hg, he]) (set_grown w g k v))
theorem step_storeF {P : Program} {ops : Array Oper} {o : Oper} {a : Act} {w : World} {K : Act → World → Prop} {Q : Exit → Act → World → Prop} {E : Prop} (hgd : o.guard = none) (ty : TypeId) (x y : Operand) (ho : o.op = .store ty x y)
    (g k : Nat) (v : Value) (hx : a.eval x = .pointer (some ⟨g, k, none⟩)) (hy : a.eval y = v) (h1 : v.oneCell' = true) {cs : Array Value} {T : TypeId} (hg : w.heap[g]? = some (.cells cs T (0, 0))) (hk : k < cs.size) (hi : (P.info? ty).map (·.size) = some 1)
    (cs' : Array Value) (he : cs.setIfInBounds k v = cs')
    (h : ∀ w1, w1.heap[g]? = some (.cells cs' T (0, 0)) → w.grownBy w1 (some g) → K (a.put o.dst undef) w1) : if Region.wanted o (yielded ops a.tmps) = true then Oper.wp P o a w K Q else E := by
  rw [if_pos (by simp [Region.wanted, hgd])]
  unfold Oper.wp execOp
  simp only [ho, hx, hy, Sem.run_bind, Sem.run_pure, Result.andThen_ok, run_storeF (P := P) hg hk h1 hi]
  exact h _ (by rw [z1e hg, he]) (set_grown w g k v)
theorem z0j {P : Program} {ops : Array Oper} {o : Oper} {a : Act} {w : World} {K : Act → World → Prop} {Q : Exit → Act → World → Prop} {E : Prop} (hgd : o.guard = none) (ty : TypeId) (x y : Operand) (ho : o.op = .store ty x y)
    (g : Nat) (cs : Array Value) (hx : a.eval x = .pointer (some ⟨g, 0, none⟩)) (hy : a.eval y = .agg cs) {T : TypeId} {old : Array Value} (hg : w.heap[g]? = some (.cells old T (0, 0))) (hi : (P.info? ty).map (·.size) = some cs.size) (hl : old.size = cs.size) (h1 : cs.all (·.oneCell') = true)
    (h : ∀ w1, w1.heap[g]? = some (.cells cs T (0, 0)) → w.grownBy w1 (some g) → K (a.put o.dst undef) w1) : if Region.wanted o (yielded ops a.tmps) = true then Oper.wp P o a w K Q else E := by
  rw [if_pos (by simp [Region.wanted, hgd])]
  exact wp_store_row ty x y ho g cs hx hy T _ hg hi hl h1 (h _ (setRow_heap w g _ _ T _ hg) ⟨rfl, rfl, rfl, by simp [World.setRow], fun k _ hk => setRow_other w g k _ (fun e => hk (by rw [e]))⟩)
theorem bsz {w a : World} (h : Below w.heap.size w a) : w.heap.size ≤ a.heap.size := h.size
theorem z1m {P : Program} {ops : Array Oper} {o : Oper} {a : Act} {w : World} {K : Act → World → Prop} {Q : Exit → Act → World → Prop} {E : Prop} (hgd : o.guard = none) (ty : TypeId) (x : Operand) (ho : o.op = .load ty x)
    (b off : Nat) (hx : a.eval x = .pointer (some ⟨b, off, none⟩)) (cs : List Value) (d : TypeDesc) (hc : w.rangeAt b off cs) (hu : P.underlying ty = some d) (hd : d.isRow = true) (hi : (P.info? ty).map (·.size) = some cs.length)
    (h : K (a.put o.dst (.agg cs.toArray)) w) : if Region.wanted o (yielded ops a.tmps) = true then Oper.wp P o a w K Q else E := by
  rw [if_pos (by simp [Region.wanted, hgd])]
  exact wp_load_mid ty x ho b off hx cs d hc hu hd hi h
theorem cEa {v w a w' : World} {row : Option Nat} (hE : Hid (Below v.heap.size v w)) (hu : Below w.heap.size w a) (hgr : a.grownBy w' row) (hge : ∀ k, row = some k → v.heap.size ≤ k) : Hid (Below v.heap.size v w') :=
  Hd ((hE.out.trans (hu.mono hE.out.size)).grown hgr (Nat.le_trans hE.out.size hu.size) hge)
theorem cE0 {v w a w' : World} (hE : Hid (Below v.heap.size v w)) (hu : Below w.heap.size w a) (hb : Below a.heap.size a w') : Hid (Below v.heap.size v w') :=
  Hd ((hE.out.trans (hu.mono hE.out.size)).trans (hb.mono (Nat.le_trans hE.out.size hu.size)))
theorem cOa {w a w' : World} {base : Nat} {e : TypeId} {size : Nat} {ad : Option Addr} {n c : Nat} {xs : List Value} (h : Hid (w.ownsRow base e size (.slice ad n c) n xs)) (hu : Below w.heap.size w a) (hb : Below a.heap.size a w') : Hid (w'.ownsRow base e size (.slice ad n c) n xs) := Hd (z08 (z08 h.out hu) hb)
theorem cEb {v w a w' : World} (hE : Hid (Below v.heap.size v w)) (hu : Below w.heap.size w a) (hb : Below v.heap.size a w') : Hid (Below v.heap.size v w') :=
  Hd ((hE.out.trans (hu.mono hE.out.size)).trans hb)
theorem wpL_appL {P : Program} {w : World} {ops : Array Oper} {rest : List Oper} {o : Oper} {a : Act} {Q : Exit → Act → World → Prop} {t e : TypeId} {z : Value} (el : Elem P t e 1 1 z)
    (hgd : Region.wanted o (yielded ops a.tmps) = true) (s x : Operand) (ho : o.op = .call { callee := .builtin .append, args := #[s, x], argTypes := #[t, t] })
    (base : Nat) {ad : Option Addr} {c : Nat} {L : List UInt8} (hs : a.eval s = .slice ad L.length c) (hown : w.ownsRow base e 1 (.slice ad L.length c) L.length (BV L))
    {ad2 : Option Addr} {m c2 : Nat} {M : List UInt8} (hx : a.eval x = .slice ad2 m c2) (hsl : Bs w ad2 m c2 M) (R : List UInt8) (hR : L ++ M = R)
    (hb : R.length ≤ 140737488351232) (hbase : base ≤ w.heap.size)
    (h : ∀ ad' c' w', w'.ownsRow base e 1 (.slice ad' R.length c') R.length (BV R) → Below base w w' → wpList P ops Q rest (a.put o.dst (.slice ad' R.length c')) w') :
    wpList P ops Q (o :: rest) a w := by
  have hm := hsl.len
  subst hm
  have hl : R.length = L.length + M.length := by rw [← hR, List.length_append]
  refine z0k el hgd s x ho base hs hown hx hsl (z11 _) (by unfold maxLen; omega) (by omega) hbase fun ad' c' w' ho' hg' hat _ => ?_
  have h1 := h ad' c' w'
  rw [hl, ← hR, z0i] at h1
  exact h1 ho' ((Below.refl base w).grown hg' hbase (z07 hown))
theorem step_appL {P : Program} {w : World} {ops : Array Oper} {o : Oper} {a : Act} {K : Act → World → Prop} {Q : Exit → Act → World → Prop} {E : Prop} {t e : TypeId} {z : Value} (el : Elem P t e 1 1 z)
    (hgd : Region.wanted o (yielded ops a.tmps) = true) (s x : Operand) (ho : o.op = .call { callee := .builtin .append, args := #[s, x], argTypes := #[t, t] })
    (base : Nat) {ad : Option Addr} {c : Nat} {L : List UInt8} (hs : a.eval s = .slice ad L.length c) (hown : w.ownsRow base e 1 (.slice ad L.length c) L.length (BV L))
    {ad2 : Option Addr} {m c2 : Nat} {M : List UInt8} (hx : a.eval x = .slice ad2 m c2) (hsl : Bs w ad2 m c2 M) (R : List UInt8) (hR : L ++ M = R)
    (hb : R.length ≤ 140737488351232) (hbase : base ≤ w.heap.size)
    (h : ∀ ad' c' w', w'.ownsRow base e 1 (.slice ad' R.length c') R.length (BV R) → Below base w w' → K (a.put o.dst (.slice ad' R.length c')) w') :
    if Region.wanted o (yielded ops a.tmps) = true then Oper.wp P o a w K Q else E := by
  have hm := hsl.len
  subst hm
  have hl : R.length = L.length + M.length := by rw [← hR, List.length_append]
  refine z1v el hgd s x ho base hs hown hx hsl (z11 _) (by unfold maxLen; omega) (by omega) hbase fun ad' c' w' ho' hg' hat _ => ?_
  have h1 := h ad' c' w'
  rw [hl, ← hR, z0i] at h1
  exact h1 ho' ((Below.refl base w).grown hg' hbase (z07 hown))
theorem wpL_lit {w : World} {ops : Array Oper} {rest : List Oper} {o : Oper} {a : Act} {Q : Exit → Act → World → Prop} (hgd : o.guard = none) (n : Nat) (parts : Array (Nat × Operand)) (ho : o.op = .buildSlice 24 n parts)
    (l : List UInt8) (hlen : n = l.length) (hpos : 0 < n) (hsmall : n ≤ 16777216)
    (hparts : parts.toList = ((l.map fun b => (b.toNat : Int)).zipIdx 0).map fun x => (x.2, Operand.const (Value.int .u8 x.1)))
    (h : ∀ w1 g, w.heap.size ≤ g → w1.ownsRow w.heap.size 5 1 (.slice (some ⟨g, 0, none⟩) l.length l.length) l.length (BV l) → Below w.heap.size w w1 → wpList Try.prog ops Q rest (a.put o.dst (.slice (some ⟨g, 0, none⟩) l.length l.length)) w1) :
    wpList Try.prog ops Q (o :: rest) a w := by
  subst hlen
  refine wpList_buildFlat hgd 24 5 l.length parts ho .u8 (l.map fun b => (b.toNat : Int)) Try.underlying24 (by kernel_rfl) (by kernel_rfl) (by simp) hpos (by omega) hparts ?_
  have e : (l.map fun b => (b.toNat : Int)).map (Value.int .u8) = BV l := by unfold BV; rw [List.map_map]; rfl
  rw [e]
  refine h _ _ (Nat.le_refl _) ?_ ((Below.refl _ _).alloc (Nat.le_refl _) _)
  have := World.ownsRow_lit (size := 1) (base := w.heap.size) (e := 5) w (BV l).toArray l.length (Nat.le_refl _) (by unfold maxLen; omega) (by simp [BV])
  simpa using this
theorem wpL_lit0 {w : World} {ops : Array Oper} {rest : List Oper} {o : Oper} {a : Act} {Q : Exit → Act → World → Prop} (hgd : o.guard = none) (ho : o.op = .buildSlice 24 0 #[])
    (h : ∀ w1 g, w.heap.size ≤ g → w1.ownsRow w.heap.size 5 1 (.slice (some ⟨g, 0, none⟩) ([] : List UInt8).length 0) ([] : List UInt8).length (BV []) → Below w.heap.size w w1 → wpList Try.prog ops Q rest (a.put o.dst (.slice (some ⟨g, 0, none⟩) 0 0)) w1) :
    wpList Try.prog ops Q (o :: rest) a w := by
  have hown := World.ownsRow_lit (size := 1) (base := w.heap.size) (e := 5) w #[] 0 (Nat.le_refl _) (by simp [maxLen]) rfl
  refine z23 (by simp [Region.wanted, hgd]) (v := .slice (some ⟨w.heap.size, 0, none⟩) 0 0) (w' := w.alloc (.cells #[] 5)) ?_ (h _ _ (Nat.le_refl _) hown ((Below.refl _ _).alloc (Nat.le_refl _) _))
  obtain ⟨i, hi, hz, hsize, hby⟩ := info_parts elB.info
  have e : (Array.range 0).map (fun _ : Nat => (default : Value)) = #[] := by simp
  simp [execOp, ho, Instr.buildSlice, run_underlying Try.underlying24, sizeOf, typeInfo, hi, newRow, Instr.fill, e]
theorem z39 {P : Program} {ops : Array Oper} {o : Oper} {a : Act} {w w' : World} {K : Act → World → Prop} {Q : Exit → Act → World → Prop} {E : Prop} (hgd : Region.wanted o (yielded ops a.tmps) = true) {v : Value}
    (hrun : (execOp a.eval o).run P w = .ok (.value v) w') (h : K (a.put o.dst v) w') : if Region.wanted o (yielded ops a.tmps) = true then Oper.wp P o a w K Q else E := by
  rw [if_pos hgd]
  unfold Oper.wp
  rw [hrun]
  exact h
theorem run_lit0 {o : Oper} {a : Act} {w : World} (ho : o.op = .buildSlice 24 0 #[]) : (execOp a.eval o).run Try.prog w = .ok (.value (.slice (some ⟨w.heap.size, 0, none⟩) 0 0)) (w.alloc (.cells #[] 5)) := by
  obtain ⟨i, hi, hz, hsize, hby⟩ := info_parts elB.info
  have e : (Array.range 0).map (fun _ : Nat => (default : Value)) = #[] := by simp
  simp [execOp, ho, Instr.buildSlice, run_underlying Try.underlying24, sizeOf, typeInfo, hi, newRow, Instr.fill, e]
theorem step_lit0 {ops : Array Oper} {o : Oper} {a : Act} {w : World} {K : Act → World → Prop} {Q : Exit → Act → World → Prop} {E : Prop} (hgd : o.guard = none) (ho : o.op = .buildSlice 24 0 #[])
    (h : ∀ w1 g, w1.ownsRow w.heap.size 5 1 (.slice (some ⟨g, 0, none⟩) ([] : List UInt8).length 0) ([] : List UInt8).length (BV []) → Below w.heap.size w w1 → K (a.put o.dst (.slice (some ⟨g, 0, none⟩) 0 0)) w1) :
    if Region.wanted o (yielded ops a.tmps) = true then Oper.wp Try.prog o a w K Q else E := by
  have hown := World.ownsRow_lit (size := 1) (base := w.heap.size) (e := 5) w #[] 0 (Nat.le_refl _) (by simp [maxLen]) rfl
  exact z39 (by simp [Region.wanted, hgd]) (run_lit0 ho) (h _ _ hown ((Below.refl _ _).alloc (Nat.le_refl _) _))
theorem z1q {P : Program} {w : World} {ops : Array Oper} {rest : List Oper} {o : Oper} {a : Act} {Q : Exit → Act → World → Prop} (hg : o.guard = none) (t e : TypeId) (len : Nat) (parts : Array (Nat × Operand)) (ho : o.op = .buildSlice t len parts)
    (k : IntKind) (zs : List Int) (hu : P.underlying t = some (.slice e)) (hsz : (P.info? e).map (·.size) = some 1) (hz : ((P.info? e).bind (·.zero)).isSome = true)
    (hlen : len = zs.length) (hpos : 0 < len) (hsmall : len ≤ 2 ^ 24)
    (hparts : parts.toList = (zs.zipIdx 0).map fun x => (x.2, Operand.const (Value.int k x.1)))
    (h : ∀ w1 g, w.heap.size ≤ g → w1.heap[g]? = some (.cells (zs.map (Value.int k)).toArray e (0, 0)) → Below w.heap.size w w1 → wpList P ops Q rest (a.put o.dst (.slice (some ⟨g, 0, none⟩) len len)) w1) : wpList P ops Q (o :: rest) a w :=
  wpList_buildFlat hg t e len parts ho k zs hu hsz hz hlen hpos hsmall hparts (h _ _ (Nat.le_refl _) (heap_alloc_last w _) ((Below.refl _ _).alloc (Nat.le_refl _) _))
structure PS where
  sec : Int
  big : Bool
  snaps : List Nat
def noS : PS := ⟨-1, false, []⟩
def nextS (s : PS) (x : PB) : PS := if x.kind = 1 then ⟨s.sec + 1, x.big, []⟩ else if x.kind = 2 then ⟨s.sec, s.big, s.snaps ++ [x.snap]⟩ else s
def okS (s : PS) (x : PB) : Bool :=
  if x.kind = 1 then true
  else if x.kind = 3 ∨ x.kind = 6 then decide (0 ≤ s.sec) && decide (x.iface < (s.snaps.length : Int))
  else if x.kind = 4 then decide (0 ≤ s.sec) && decide (0 < s.snaps.length)
  else decide (0 ≤ s.sec)
def goS (s : PS) (x : PB) : Bool := okS s x && rightP x
def walkL : PS → List PB → List (PS × PB)
  | _, [] => []
  | s, x :: l => if goS s x then (nextS s x, x) :: walkL (nextS s x) l else []
def allS : PS → List PB → Bool
  | _, [] => true
  | s, x :: l => goS s x && allS (nextS s x) l
def rightC (l : List PB) : Bool := allS noS l && decide (0 < l.length)
def stS : PS → List PB → PS
  | s, [] => s
  | s, x :: l => stS (nextS s x) l
theorem stS_append (s : PS) (a b : List PB) : stS s (a ++ b) = stS (stS s a) b := by
  induction a generalizing s with
  | nil => rfl
  | cons x a ih => exact ih _
theorem stS_snoc (s : PS) (a : List PB) (x : PB) : stS s (a ++ [x]) = nextS (stS s a) x := stS_append s a [x]
theorem allS_append (s : PS) (a b : List PB) : allS s (a ++ b) = (allS s a && allS (stS s a) b) := by
  induction a generalizing s with
  | nil => simp [allS, stS]
  | cons x a ih => simp only [List.cons_append, allS, stS, ih, Bool.and_assoc]
theorem allS_snoc (s : PS) (a : List PB) (x : PB) : allS s (a ++ [x]) = (allS s a && goS (stS s a) x) := by rw [allS_append]; simp [allS]
theorem walkL_append (s : PS) (a b : List PB) (h : allS s a = true) : walkL s (a ++ b) = walkL s a ++ walkL (stS s a) b := by
  induction a generalizing s with
  | nil => rfl
  | cons x a ih =>
    simp only [allS, Bool.and_eq_true] at h
    simp only [List.cons_append, walkL, stS, h.1, if_true, ih _ h.2]
theorem walkL_stop (s : PS) (a : List PB) (x : PB) (b : List PB) (h : allS s a = true) (hx : goS (stS s a) x = false) : walkL s (a ++ x :: b) = walkL s a := by
  rw [walkL_append s a _ h]
  simp [walkL, hx]
theorem allS_stop (s : PS) (a : List PB) (x : PB) (b : List PB) (hx : goS (stS s a) x = false) : allS s (a ++ x :: b) = false := by
  rw [allS_append]
  simp [allS, hx]
def putC (l : List (PS × PB)) : List UInt8 := l.flatMap fun p => if rightP p.2 then bytesB p.1.big p.2 else []
theorem putC_snoc (l : List (PS × PB)) (p : PS × PB) : putC (l ++ [p]) = putC l ++ (if rightP p.2 then bytesB p.1.big p.2 else []) := by simp [putC]
def bytesC : PS → List PB → List UInt8
  | _, [] => []
  | s, x :: l => bytesB s.big x ++ bytesC (nextS s x) l
theorem next_bytes (s : PS) (x : PB) : bytesB (nextS s x).big x = bytesB s.big x := by
  by_cases h : x.kind = 1
  · exact bytesB_section x h _ _
  · unfold nextS
    rw [if_neg h]
    split <;> rfl
theorem putC_walk (s : PS) (l : List PB) (h : allS s l = true) : putC (walkL s l) = bytesC s l := by
  induction l generalizing s with
  | nil => rfl
  | cons x l ih =>
    simp only [allS, Bool.and_eq_true] at h
    have hr : rightP x = true := by have := h.1; simp only [goS, Bool.and_eq_true] at this; exact this.2
    have e : walkL s (x :: l) = (nextS s x, x) :: walkL (nextS s x) l := by simp only [walkL, h.1, if_true]
    rw [e]
    show putC ([(nextS s x, x)] ++ walkL (nextS s x) l) = _
    have e2 : putC ([(nextS s x, x)] ++ walkL (nextS s x) l) = putC [(nextS s x, x)] ++ putC (walkL (nextS s x) l) := by simp [putC]
    rw [e2, ih _ h.2]
    simp [putC, hr, bytesC, next_bytes]
theorem putC_length (l : List (PS × PB)) : (putC l).length ≤ l.length * 1048576 := by
  induction l with
  | nil => simp [putC]
  | cons p l ih =>
    have e : putC (p :: l) = (if rightP p.2 then bytesB p.1.big p.2 else []) ++ putC l := by simp [putC]
    rw [e, List.length_append, List.length_cons, Nat.succ_mul]
    have : (if rightP p.2 then bytesB p.1.big p.2 else []).length ≤ 1048576 := by
      split
      · rename_i h
        simp [rightP] at h
        rw [z2p]
        exact h.2
      · simp
    omega
def markB : List UInt8 := [10, 13, 13, 10]
def readC : Nat → PS → List PB → Nat → List UInt8 → List PB × (Nat × Int)
  | 0, _, acc, at_, _ => (acc, (at_, 0))
  | f + 1, s, acc, at_, b =>
    if b = [] ∧ 0 < at_ then (acc, (0, 0))
    else if s.sec < 0 ∧ 12 ≤ b.length ∧ b.take 4 ≠ markB then (acc, (at_, 3))
    else if (getP s.big b).2.2 ≠ 0 then (acc, (at_, (getP s.big b).2.2))
    else if okS s (getP s.big b).1 = false then (acc, (at_, 5))
    else readC f (nextS s (getP s.big b).1) (acc ++ [(getP s.big b).1]) (at_ + (getP s.big b).2.1) (b.drop (getP s.big b).2.1)
def readP (b : List UInt8) : List PB × (Nat × Int) := readC (b.length + 1) noS [] 0 b
structure FR where
  sec : Int
  iface : Int
  time : Nat
  len : Nat
  data : List UInt8
def frameS (s : PS) (x : PB) : List FR :=
  if x.kind = 3 then [⟨s.sec, x.iface, x.time, x.len, x.data⟩]
  else if x.kind = 4 then [⟨s.sec, x.iface, x.time, x.len, if s.snaps.headD 0 = 0 then x.data else x.data.take (s.snaps.headD 0)⟩]
  else []
def framesC (l : List (PS × PB)) : List FR := l.flatMap fun p => frameS p.1 p.2
def framesR : PS → List PB → List FR
  | _, [] => []
  | s, x :: l => frameS s x ++ framesR (nextS s x) l
theorem next_frames (s : PS) (x : PB) : frameS (nextS s x) x = frameS s x := by
  unfold frameS nextS
  by_cases h1 : x.kind = 1
  · rw [if_neg (by omega), if_neg (by omega), if_neg (by omega), if_neg (by omega)]
  · by_cases h2 : x.kind = 2
    · rw [if_neg (by omega), if_neg (by omega), if_neg (by omega), if_neg (by omega)]
    · rw [if_neg h1, if_neg h2]
theorem framesC_walk (s : PS) (l : List PB) (h : allS s l = true) : framesC (walkL s l) = framesR s l := by
  induction l generalizing s with
  | nil => rfl
  | cons x l ih =>
    simp only [allS, Bool.and_eq_true] at h
    have e : walkL s (x :: l) = (nextS s x, x) :: walkL (nextS s x) l := by simp only [walkL, h.1, if_true]
    rw [e]
    have e2 : framesC ((nextS s x, x) :: walkL (nextS s x) l) = frameS (nextS s x) x ++ framesC (walkL (nextS s x) l) := by simp [framesC]
    rw [e2, ih _ h.2, next_frames]
    rfl
theorem elU : Elem Try.prog 81 22 1 4 (.int .u32 0) := ⟨Try.underlying81, by kernel_rfl, rfl, by decide⟩
def UV (l : List Nat) : List Value := l.map fun (k : Nat) => Value.int .u32 (k : Int)
theorem UV_length (l : List Nat) : (UV l).length = l.length := by simp [UV]
def Us (w : World) (ad : Option Addr) (n c : Nat) (l : List Nat) : Prop := Sl w ad n c 1 (UV l)
theorem Us.len {w : World} {ad : Option Addr} {n c : Nat} {l : List Nat} (h : Us w ad n c l) : n = l.length := by have := Sl.len h; rw [UV_length] at this; omega
theorem Us.le {w : World} {ad : Option Addr} {n c : Nat} {l : List Nat} (h : Us w ad n c l) : n ≤ c ∧ c ≤ 9223372036854775807 := ⟨h.2.1, by have := h.2.2.1; simp [maxLen] at this; omega⟩
theorem Us.below {w w' : World} {ad : Option Addr} {n c : Nat} {l : List Nat} (h : Us w ad n c l) (hb : Below w.heap.size w w') : Us w' ad n c l := Sl.below h hb
instance {w w' : World} {ad : Option Addr} {n c : Nat} {l : List Nat} : Ck (Us w ad n c l) w' w (Us w' ad n c l) := ⟨fun h hE => h.below hE⟩
structure StV where
  sec : Int
  big : Bool
  ad : Option Addr
  n : Nat
  c : Nat
  sn : List Nat
def StV.cells (v : StV) : List Value := [.int .i64 v.sec, .bool v.big, .slice v.ad v.n v.c]
def StV.val (v : StV) : PS := ⟨v.sec, v.big, v.sn⟩
def StV.mem (w : World) (v : StV) : Prop := w.ownsRow 0 22 1 (.slice v.ad v.n v.c) v.n (UV v.sn)
theorem StV.us {w : World} {v : StV} (h : StV.mem w v) : Us w v.ad v.n v.c v.sn := Sl.of_own h
theorem StV.below {w w' : World} {v : StV} (h : StV.mem w v) (hb : Below w.heap.size w w') : StV.mem w' v := z08 h hb
theorem StV.write {w w' : World} {v : StV} {g : Nat} {cs : Array Value} {ty : TypeId} (h : StV.mem w v) (hg : w.grownBy w' (some g)) (hc : w.heap[g]? = some (.cells cs ty (0, 0))) (hne : ty ≠ 22) : StV.mem w' v := by
  refine h.kept hg ?_
  rcases h.2 with ⟨h0, _⟩ | ⟨r, cap, cur, hv, _, hr, _⟩
  · rw [h0]; exact .inl rfl
  · rw [hv]
    refine .inr fun e => ?_
    simp [Value.ownBlock] at e
    subst e
    rw [hc] at hr
    simp at hr
    exact hne hr.2
instance {w w' : World} {v : StV} : Ck (StV.mem w v) w' w (StV.mem w' v) := ⟨fun h hE => StV.below h hE⟩
theorem z0v (v : StV) : v.cells.toArray.all (·.oneCell') = true := by
  simp only [StV.cells, List.all_toArray, List.all_cons, List.all_nil, Bool.and_true, Bool.and_eq_true]
  exact ⟨rfl, rfl, rfl⟩
def zeroSt : Array Value := #[.int .i64 0, .bool false, .slice none 0 0]
theorem st_zero : (Try.prog.info? 83).map (fun i => (i.zero, i.size)) = some (some (.agg zeroSt), 3) := by kernel_rfl
theorem z3g : (Try.prog.info? 83).map (·.size) = some 3 := by kernel_rfl
theorem run_slice3 {P : Program} {w : World} {t e : TypeId} {size bytes : Nat} {z : Value} (el : Elem P t e size bytes z) (ad : Option Addr) (n c : Nat) (k1 k2 : IntKind) (h m : Nat) (hh : h ≤ m) (hm : m ≤ c) :
    (Instr.sliceAt t (.slice ad n c) none (some (.int k1 (h : Int))) (some (.int k2 (m : Int)))).run P w = .ok (.slice ad h m) w := by
  obtain ⟨i, hi', hz, hsize, hby⟩ := info_parts el.info
  subst hsize
  simp [Instr.sliceAt, Instr.slice, Instr.sliceBounds, Instr.sliceBound, asIntOf, run_underlying el.ht, sizeOf, typeInfo, hi', hh, hm]
  cases ad <;> simp [Addr.add]
theorem yields_slice3 {P : Program} {ops : Array Oper} {o : Oper} {a : Act} {S : World → Prop} {t e : TypeId} {size bytes : Nat} {z : Value} (el : Elem P t e size bytes z)
    (hg : Region.wanted o (yielded ops a.tmps) = true) (x hi mx : Operand) (hop : o.op = Op.slice t x none (some hi) (some mx)) {ad : Option Addr} {n c : Nat} (hx : a.eval x = .slice ad n c) (h m : Nat) (k1 k2 : IntKind)
    (hhi : a.eval hi = .int k1 (h : Int)) (hmx : a.eval mx = .int k2 (m : Int)) (hh : h ≤ m) (hm : m ≤ c) : YieldsIf P ops S o (.slice ad h m) a := by
  refine Or.inl ⟨hg, fun w _ => ?_⟩
  simp only [execOp, hop, hx, hhi, hmx, Option.map_none, Option.map_some, Sem.run_bind, run_slice3 (P := P) (w := w) el ad n c k1 k2 h m hh hm, Result.andThen_ok, Sem.run_pure]
theorem step_one32 {ops : Array Oper} {o : Oper} {a : Act} {w : World} {K : Act → World → Prop} {Q : Exit → Act → World → Prop} {E : Prop} (hgd : o.guard = none) (x : Operand) (k : Nat)
    (ho : o.op = .buildSlice 81 1 #[(0, x)]) (hx : a.eval x = .int .u32 (k : Int))
    (h : ∀ w1 g, w.heap.size ≤ g → w1.heap[g]? = some (.cells #[.int .u32 (k : Int)] 22 (0, 0)) → Below w.heap.size w w1 → K (a.put o.dst (.slice (some ⟨g, 0, none⟩) 1 1)) w1) :
    if Region.wanted o (yielded ops a.tmps) = true then Oper.wp Try.prog o a w K Q else E := by
  rw [if_pos (by simp [Region.wanted, hgd])]
  obtain ⟨i, hi, hz, hsize, hby⟩ := info_parts elU.info
  refine wp_buildSlice 81 22 1 _ ho #[.int .u32 (k : Int)] i _ Try.underlying81 hi hz (by rw [hsize]; omega) (by rw [hsize]; omega) (by rw [hsize]; (simp [hx, Instr.fill, Array.range, Value.cells]; rfl)) ?_
  exact h _ _ (Nat.le_refl _) (heap_alloc_last w _) ((Below.refl _ _).alloc (Nat.le_refl _) _)
theorem z17 {P : Program} {fn : Func} {R : Ending → World → Prop} {a : Act} {w : World} {t1 t4 : Tmp} {T : TypeId} {g : Nat} {cs : List Value} {d : TypeDesc}
    (h : fn.results = #[.cell t4 T, .tmp t1]) (hp : a.tmps.getD t4 undef = .pointer (some ⟨g, 0, none⟩)) (hc : w.rangeAt g 0 cs) (hu : P.underlying T = some d) (hd : d.isRow = true) (hi : (P.info? T).map (·.size) = some cs.length)
    (hdf : a.defers = []) (hR : R (.returned (.tuple #[.agg cs.toArray, a.tmps.getD t1 undef])) w) : bodyPost P fn R .ret a w := by
  refine bodyPost_ret ?_ hdf hR
  have hp' : a.tmps[t4]?.getD undef = .pointer (some ⟨g, 0, none⟩) := by simpa using hp
  simp [results, h, hp', asAddr, run_loadVar_mid w g 0 T cs d hc hu hd hi]
theorem z19 (g4 g5 : Nat) (ad : Option Addr) (n c : Nat) (l : List UInt8) (big : Bool) (k m : Nat) (hkm : k + m ≤ n) (hn : n ≤ 4000000000) (w : World) (h4 : w.heap[g4]? = some (.cells #[.slice ad n c] 24 (0, 0))) (h5 : w.heap[g5]? = some (.cells #[.bool big] 4 (0, 0))) (hs : Bs w ad n c l) :
    Calls Try.prog 82 #[.int .i64 (k : Int), .int .i64 (m : Int), .pointer (some ⟨g4, 0, none⟩), .pointer (some ⟨g5, 0, none⟩)] w fun e w' => e = .returned (.int .u64 (getN ((l.drop k).take m) big)) ∧ Below w.heap.size w w' := by
  have HS := Hd hs
  have hc := hs.le
  have HG4 := Hd h4
  have HG5 := Hd h5
  have HB := Hd (Below.refl w.heap.size w)
  obtain ⟨q, hq⟩ : ∃ q, q = k + m := ⟨_, rfl⟩
  have hqi : (k : Int) + (m : Int) = (q : Int) := by omega
  have hqw : IntKind.i64.wrap ((k : Int) + (m : Int)) = (q : Int) := by rw [IntKind.wrap_i64]; omega
  have hqv : IntKind.i64.wrap (q : Int) = (q : Int) := by rw [IntKind.wrap_i64]; omega
  have hqk : Hid (q - k = m) := Hd (by omega)
  have hkq : k ≤ q := by omega
  have hqn : q ≤ n := by omega
  obtain ⟨R, hR⟩ : ∃ R, R = getN ((l.drop k).take m) big := ⟨_, rfl⟩
  rw [← hR]
  have HR := Hd hR
  obtain ⟨adq, hadq⟩ : ∃ a, a = subAd ad c k 1 := ⟨_, rfl⟩
  have HA := Hd hadq
  have HQ := Hd (show Bs w adq (q - k) (c - k) ((l.drop k).take m) from by rw [hadq, ← hqk.out]; exact Bs.part hs k q hkq hqn)
  clear hs h4 h5 hq hR hadq hkm
  go_enter Try.func82, Try.ntmps82
  go_wp2_with fail
  refine wp_region_held_drew (S := fun v => v.cell? ⟨g4, 0, none⟩ = some (.slice ad n c) ∧ v.cell? ⟨g5, 0, none⟩ = some (.bool big)) (by kernel_rfl) ?_ (fun hHeld => ?_); (focus (exact ⟨cell_of_one HG4.out, cell_of_one HG5.out⟩)); (refine' tk 0 (oi := ⟨some 7, _, _, _, _, _⟩) (v := (.slice ad n c)) rfl (by kernel_rfl) (.inl ⟨by rfl, ?_⟩) hHeld ?_; focus (intro w hSw; (try dsimp only at hSw); go_simp; first | done | rfl | (simp [*]; done) | (simp [*]; omega))); simp only [PT]; (refine tk 1 (oi := ⟨some 8, _, _, _, _, _⟩) (v := ?_) rfl (by kernel_rfl) (.inl ⟨by rfl, ?_⟩) hHeld ?_; rotate_left; focus (intro w hSw; (try dsimp only at hSw); go_simp; try with_reducible rfl)); simp only [PT]; (refine tk 2 (oi := ⟨some 9, _, _, _, _, _⟩) (v := ?_) rfl (by kernel_rfl) (.inl ⟨by rfl, ?_⟩) hHeld ?_; rotate_left; focus (intro w hSw; (try dsimp only at hSw); go_simp; try with_reducible rfl)); simp only [PT]; (refine tk 3 (oi := ⟨some 10, _, _, _, _, _⟩) (v := ?_) rfl (by kernel_rfl) (.inl ⟨by rfl, ?_⟩) hHeld ?_; rotate_left; focus (intro w hSw; (try dsimp only at hSw); go_simp; try with_reducible rfl)); simp only [PT]; (refine' tk 4 (oi := ⟨some 11, _, _, _, _, _⟩) (v := (.int .i64 (q : Int))) rfl (by kernel_rfl) (.inl ⟨by rfl, ?_⟩) hHeld ?_; focus (intro w hSw; (try dsimp only at hSw); go_simp; first | done | rfl | (simp [*]; done) | (simp [*]; omega))); simp only [PT]; refine' tk 5 (oi := ⟨some 12, _, _, _, _, _⟩) (v := _) rfl (by kernel_rfl) (z14 elB rfl (.tmp 7) (some (.tmp 8)) (some (.tmp 11)) rfl rfl k q (.inr ⟨.i64, rfl⟩) (.inr ⟨.i64, rfl⟩) hkq (by omega)) hHeld ?_; simp only [PT]; (refine' tk 6 (oi := ⟨some 13, _, _, _, _, _⟩) (v := (.bool big)) rfl (by kernel_rfl) (.inl ⟨by rfl, ?_⟩) hHeld ?_; focus (intro w hSw; (try dsimp only at hSw); go_simp; first | done | rfl | (simp [*]; done) | (simp [*]; omega))); simp only [PT]; refine wpAnyH_ready (rs := [7]) (by kernel_rfl) (by simp) ?_; refine (AllReadyH.cons (o := ⟨some 14, _, _, _, _, _⟩) rfl (fun K hK => ?_) AllReadyH.nil); (focus (go_simp; (rw [← HA.out]); (refine (z1p adq (q - k) (c - k) ((l.drop k).take m) big _ (HQ.out.below bup)).mono ?_); intro e w5 hr; unfold RetN at hr; rw [← HR.out] at hr; obtain ⟨rfl, hb5⟩ := hr; have hE__ := cU HB bup hb5; replace HB := ck HB hE__; replace HG4 := ck HG4 hE__; replace HG5 := ck HG5 hE__; clear hE__; clear hb5; go_wp2_with fail)); refine hK.out _ _ ?_ (fun hHeld => ?_); (focus (exact ⟨cell_of_one HG4.out, cell_of_one HG5.out⟩)); clear hK K; (try simp only [PT]); (refine tk 8 (oi := ⟨some 6, _, _, _, _, _⟩) (v := ?_) rfl (by kernel_rfl) (.inl ⟨by rfl, ?_⟩) hHeld ?_; rotate_left; focus (intro w hSw; (try dsimp only at hSw); go_simp; try with_reducible rfl)); simp only [PT]; refine wpAnyH_done (by kernel_rfl) ?_ _
  all_goals
    go_wp2_with fail
    go_ret
    exact ⟨rfl, HB.out⟩
def OwnBlk (base : Nat) (w : World) (v : BlkV) : Prop :=
  w.ownsRow base 5 1 (.slice v.dad v.dn v.dc) v.dn (BV v.dl) ∧ OwnOps 90 base w v.nad v.nn v.nc v.ns ∧ OwnOps 90 base w v.oad v.on v.oc v.os
theorem OwnBlk.blk {base : Nat} {w : World} {v : BlkV} (h : OwnBlk base w v) : Blk w v := ⟨Bs.of_own h.1, h.2.1.ops, h.2.2.ops⟩
theorem OwnBlk.keep {base : Nat} {w w' : World} {v : BlkV} (h : OwnBlk base w v) (hb : Below w.heap.size w w') : OwnBlk base w' v := ⟨z08 h.1 hb, h.2.1.keep hb, h.2.2.keep hb⟩
theorem OwnBlk.base {base base' : Nat} {w : World} {v : BlkV} (h : OwnBlk base w v) (hb : base' ≤ base) : OwnBlk base' w v := ⟨z0r h.1 hb, h.2.1.base hb, h.2.2.base hb⟩
theorem cX1 {w w' : World} {base : Nat} {v : BlkV} (h : Hid (OwnBlk base w v)) (hE : Below w.heap.size w w') : Hid (OwnBlk base w' v) := Hd (h.out.keep hE)
theorem cXg {w wd w1 : World} {base g : Nat} {v : BlkV} (h : Hid (OwnBlk base w v)) (hE : Below w.heap.size w wd) (hg : wd.grownBy w1 (some g)) (hb : g < base) : Hid (OwnBlk base w1 v) :=
  Hd ⟨(cOg (Hd h.out.1) hE hg hb).out, (cPg (Hd h.out.2.1) hE hg hb).out, (cPg (Hd h.out.2.2) hE hg hb).out⟩
instance {w w' : World} {base : Nat} {v : BlkV} : Ck (OwnBlk base w v) w' w (OwnBlk base w' v) := ⟨fun h hE => h.keep hE⟩
instance {w w1 : World} {base g : Nat} {v : BlkV} : Cg (OwnBlk base w v) w1 g w (g < base) (OwnBlk base w1 v) := ⟨fun wd h hE hg hs => (cXg (Hd h) hE hg hs).out⟩
theorem z1i (base : Nat) (w : World) (e : TypeId) (size : Nat) : w.ownsRow base e size (.slice none 0 0) 0 [] := World.ownsRow_nil _ _ _ _
theorem need_at1 (w : World) : (Instr.index 105 (.agg #[.int .i64 0, .int .i64 16, .int .i64 8, .int .i64 20, .int .i64 4, .int .i64 0, .int .i64 12, .int .i64 0]) (.int .i64 1)).run Try.prog w = .ok (.int .i64 16) w := by kernel_rfl
theorem need_at2 (w : World) : (Instr.index 105 (.agg #[.int .i64 0, .int .i64 16, .int .i64 8, .int .i64 20, .int .i64 4, .int .i64 0, .int .i64 12, .int .i64 0]) (.int .i64 2)).run Try.prog w = .ok (.int .i64 8) w := by kernel_rfl
theorem need_at3 (w : World) : (Instr.index 105 (.agg #[.int .i64 0, .int .i64 16, .int .i64 8, .int .i64 20, .int .i64 4, .int .i64 0, .int .i64 12, .int .i64 0]) (.int .i64 3)).run Try.prog w = .ok (.int .i64 20) w := by kernel_rfl
theorem need_at4 (w : World) : (Instr.index 105 (.agg #[.int .i64 0, .int .i64 16, .int .i64 8, .int .i64 20, .int .i64 4, .int .i64 0, .int .i64 12, .int .i64 0]) (.int .i64 4)).run Try.prog w = .ok (.int .i64 4) w := by kernel_rfl
theorem need_at5 (w : World) : (Instr.index 105 (.agg #[.int .i64 0, .int .i64 16, .int .i64 8, .int .i64 20, .int .i64 4, .int .i64 0, .int .i64 12, .int .i64 0]) (.int .i64 5)).run Try.prog w = .ok (.int .i64 0) w := by kernel_rfl
theorem need_at6 (w : World) : (Instr.index 105 (.agg #[.int .i64 0, .int .i64 16, .int .i64 8, .int .i64 20, .int .i64 4, .int .i64 0, .int .i64 12, .int .i64 0]) (.int .i64 6)).run Try.prog w = .ok (.int .i64 12) w := by kernel_rfl
theorem need_at7 (w : World) : (Instr.index 105 (.agg #[.int .i64 0, .int .i64 16, .int .i64 8, .int .i64 20, .int .i64 4, .int .i64 0, .int .i64 12, .int .i64 0]) (.int .i64 7)).run Try.prog w = .ok (.int .i64 0) w := by kernel_rfl
def noneV : BlkV := ⟨0, false, 0, 0, 0, 0, 0, 0, none, 0, 0, [], none, 0, 0, [], none, 0, 0, []⟩
def OpenR (ad : Option Addr) (n c : Nat) (l : List UInt8) (o : Option (PB × List UInt8)) (w : World) (e : Ending) (w' : World) : Prop :=
  ∃ v rad rn rc ok, e = .returned (.tuple #[.agg v.cells.toArray, .slice rad rn rc, .bool ok]) ∧ ok = o.isSome ∧
    (∀ x r, o = some (x, r) → v.val = x ∧ (∀ w0, Bs w0 ad n c l → Bs w0 rad rn rc r) ∧ OwnBlk w.heap.size w' v) ∧ Below w.heap.size w w'
theorem open2_short (ad : Option Addr) (n c : Nat) (l : List UInt8) (big : Bool) (w : World) (hs : Bs w ad n c l) (hn : n ≤ 1048576) (h : n < 8) :
    Calls Try.prog 59 #[.agg #[.int .i64 2, .bool false, .int .u32 0, .int .i64 0, .int .u32 0, .int .i64 0, .int .u64 0, .int .u32 0, .slice none 0 0, .slice none 0 0, .slice none 0 0], .slice ad n c, .bool big] w (OpenR ad n c l (openP 2 0 l big) w) := by
  have HB := Hd (Below.refl w.heap.size w)
  have HS := Hd hs
  have HBI := Hd z0d
  have hc := hs.le
  have HN := Hd hs.len
  clear hs
  have hi : (n : Int) < 8 := by omega
  have HO := Hd (show openP 2 0 l big = none from by have := HN.out; unfold openP; simp [show l.length < 8 by omega])
  clear h
  go_enter Try.func59, Try.ntmps59
  go_wp2_with (first
 | ((with_reducible refine sl 3 ?_); (refine z0a rfl 27 (.tmp 0) rfl #[.int .i64 2, .bool false, .int .u32 0, .int .i64 0, .int .u32 0, .int .i64 0, .int .u64 0, .int .u32 0, .slice none 0 0, .slice none 0 0, .slice none 0 0] rfl ?_); intro w1 g3 he__ le_g3 lt_g3 hg__ hb__; have HG3 := Hd hg__; have hE__ := cU HB bup hb__; replace HB := ck HB hE__; clear hE__; clear hg__ hb__ he__; simp only [PT])
 | ((with_reducible refine sl 4 ?_); (refine z0a rfl 24 (.tmp 1) rfl #[.slice ad n c] rfl ?_); intro w2 g4 he__ le_g4 lt_g4 hg__ hb__; have HG4 := Hd hg__; have hE__ := cU HB bup hb__; replace HB := ck HB hE__; replace HG3 := ck HG3 hE__; clear hE__; clear hg__ hb__ he__; simp only [PT])
 | ((with_reducible refine sl 5 ?_); (refine z0a rfl 4 (.tmp 2) rfl #[.bool big] rfl ?_); intro w3 g5 he__ le_g5 lt_g5 hg__ hb__; have HG5 := Hd hg__; have hE__ := cU HB bup hb__; replace HB := ck HB hE__; replace HG3 := ck HG3 hE__; replace HG4 := ck HG4 hE__; clear hE__; clear hg__ hb__ he__; simp only [PT])
 | ((with_reducible refine sl 6 ?_); (refine z09 rfl 27 rfl (.agg #[.int .i64 0, .bool false, .int .u32 0, .int .i64 0, .int .u32 0, .int .i64 0, .int .u64 0, .int .u32 0, .slice none 0 0, .slice none 0 0, .slice none 0 0]) #[.int .i64 0, .bool false, .int .u32 0, .int .i64 0, .int .u32 0, .int .i64 0, .int .u64 0, .int .u32 0, .slice none 0 0, .slice none 0 0, .slice none 0 0] 11 (by kernel_rfl) rfl ?_); intro w4 g6 he__ le_g6 lt_g6 hg__ hb__; have HG6 := Hd hg__; have hE__ := cU HB bup hb__; replace HB := ck HB hE__; replace HG3 := ck HG3 hE__; replace HG4 := ck HG4 hE__; replace HG5 := ck HG5 hE__; clear hE__; clear hg__ hb__ he__; simp only [PT])
 | ((with_reducible refine sl 19 ?_); (refine z1h rfl (.tmp 16) (.tmp 18) rfl _ _ rfl rfl (.int .i64 8) need_at2 ?_); simp only [PT])
 | ((with_reducible refine sl 18 ?_); (refine z01 rfl 3 (.tmp 17) rfl g3 0 rfl (.int .i64 2) HG3.out rfl Try.underlying3 rfl ?_); simp only [PT])
 | ((with_reducible refine sl 20 ?_); (refine z01 rfl 24 (.tmp 4) rfl g4 0 rfl (.slice ad n c) HG4.out rfl Try.underlying24 rfl ?_); simp only [PT])
 | ((with_reducible refine sl 30 ?_); (refine z01 rfl 3 (.tmp 29) rfl g3 0 rfl (.int .i64 2) HG3.out rfl Try.underlying3 rfl ?_); simp only [PT])
 | ((with_reducible refine sl 26 ?_); (refine z01 rfl 24 (.tmp 4) rfl g4 0 rfl (.slice ad n c) HG4.out rfl Try.underlying24 rfl ?_); simp only [PT])
 | ((with_reducible refine sl 24 ?_); (refine z05 rfl 27 (.tmp 3) rfl g3 0 rfl [.int .i64 2, .bool false, .int .u32 0, .int .i64 0, .int .u32 0, .int .i64 0, .int .u64 0, .int .u32 0, .slice none 0 0, .slice none 0 0, .slice none 0 0] _ (z00 HG3.out) Try.underlying27 rfl HBI.out ?_); simp only [PT])
 | ((with_reducible show wpList _ _ _ (⟨none, .store _ (.tmp 6) (.tmp 24), _, _, _, _⟩ :: _) _ _); (refine z02 rfl 27 (.tmp 6) (.tmp 24) rfl g6 #[.int .i64 2, .bool false, .int .u32 0, .int .i64 0, .int .u32 0, .int .i64 0, .int .u64 0, .int .u32 0, .slice none 0 0, .slice none 0 0, .slice none 0 0] rfl rfl HG6.out HBI.out rfl (all1 _ rfl) ?_); intro w9 hs__ hr__; replace HB := cg HB bup hr__ (by omega); replace HG3 := cg HG3 bup hr__ (by omega); clear HG6; have HG6 := Hd hs__; clear hs__ hr__; simp only [PT]))
  all_goals
    (try simp only [Exit.inBlock, Exit.then, Exit.noGoto_ret])
    refine z04 (cs := [.int .i64 2, .bool false, .int .u32 0, .int .i64 0, .int .u32 0, .int .i64 0, .int .u64 0, .int .u32 0, .slice none 0 0, .slice none 0 0, .slice none 0 0]) rfl rfl (z00 HG6.out) Try.underlying27 rfl HBI.out rfl ?_
    exact ⟨⟨2, false, 0, 0, 0, 0, 0, 0, none, 0, 0, [], none, 0, 0, [], none, 0, 0, []⟩, none, 0, 0, false, rfl, by rw [HO.out]; rfl, fun x r h => absurd (HO.out.symm.trans h) (by simp), HB.out⟩
theorem open2_ok (ad : Option Addr) (n c : Nat) (l : List UInt8) (big : Bool) (w : World) (hs : Bs w ad n c l) (hn : n ≤ 1048576) (h : 8 ≤ n) :
    Calls Try.prog 59 #[.agg #[.int .i64 2, .bool false, .int .u32 0, .int .i64 0, .int .u32 0, .int .i64 0, .int .u64 0, .int .u32 0, .slice none 0 0, .slice none 0 0, .slice none 0 0], .slice ad n c, .bool big] w (OpenR ad n c l (openP 2 0 l big) w) := by
  have HB := Hd (Below.refl w.heap.size w)
  have HS := Hd hs
  have HBI := Hd z0d
  have hc := hs.le
  have HN := Hd hs.len
  clear hs
  have hi : ¬ (n : Int) < 8 := by omega
  obtain ⟨L0, hL0⟩ : ∃ x, x = getN ((l.drop 0).take 2) big := ⟨_, rfl⟩
  have bL0 : L0 < 65536 := by rw [hL0]; exact w2_lt big l 0
  have HL0 := Hd hL0
  clear hL0
  obtain ⟨S4, hS4⟩ : ∃ x, x = getN ((l.drop 4).take 4) big := ⟨_, rfl⟩
  have bS4 : S4 < 4294967296 := by rw [hS4]; exact w4_lt big l 4
  have HS4 := Hd hS4
  clear hS4
  have e1 : IntKind.i64.wrap (L0 : Int) = (L0 : Int) := by rw [IntKind.wrap_i64]; omega
  have e2 : IntKind.u32.wrap (S4 : Int) = (S4 : Int) := by rw [IntKind.wrap_u32]; omega
  have HO : Hid (openP 2 0 l big = some ({ noneB with kind := 2, link := (L0 : Int), snap := S4 }, l.drop 8)) := Hd (by rw [HL0.out, HS4.out]; have := HN.out; unfold openP; rw [if_neg (by decide), if_pos rfl, if_neg (by omega)]; rfl)
  clear HN
  go_enter Try.func59, Try.ntmps59
  go_wp2_with (first
 | ((with_reducible refine sl 3 ?_); (refine z0a rfl 27 (.tmp 0) rfl #[.int .i64 2, .bool false, .int .u32 0, .int .i64 0, .int .u32 0, .int .i64 0, .int .u64 0, .int .u32 0, .slice none 0 0, .slice none 0 0, .slice none 0 0] rfl ?_); intro w1 g3 he__ le_g3 lt_g3 hg__ hb__; have HG3 := Hd hg__; have hE__ := cU HB bup hb__; replace HB := ck HB hE__; clear hE__; clear hg__ hb__ he__; simp only [PT])
 | ((with_reducible refine sl 4 ?_); (refine z0a rfl 24 (.tmp 1) rfl #[.slice ad n c] rfl ?_); intro w2 g4 he__ le_g4 lt_g4 hg__ hb__; have HG4 := Hd hg__; have hE__ := cU HB bup hb__; replace HB := ck HB hE__; replace HG3 := ck HG3 hE__; clear hE__; clear hg__ hb__ he__; simp only [PT])
 | ((with_reducible refine sl 5 ?_); (refine z0a rfl 4 (.tmp 2) rfl #[.bool big] rfl ?_); intro w3 g5 he__ le_g5 lt_g5 hg__ hb__; have HG5 := Hd hg__; have hE__ := cU HB bup hb__; replace HB := ck HB hE__; replace HG3 := ck HG3 hE__; replace HG4 := ck HG4 hE__; clear hE__; clear hg__ hb__ he__; simp only [PT])
 | ((with_reducible refine sl 6 ?_); (refine z09 rfl 27 rfl (.agg #[.int .i64 0, .bool false, .int .u32 0, .int .i64 0, .int .u32 0, .int .i64 0, .int .u64 0, .int .u32 0, .slice none 0 0, .slice none 0 0, .slice none 0 0]) #[.int .i64 0, .bool false, .int .u32 0, .int .i64 0, .int .u32 0, .int .i64 0, .int .u64 0, .int .u32 0, .slice none 0 0, .slice none 0 0, .slice none 0 0] 11 (by kernel_rfl) rfl ?_); intro w4 g6 he__ le_g6 lt_g6 hg__ hb__; have HG6 := Hd hg__; have hE__ := cU HB bup hb__; replace HB := ck HB hE__; replace HG3 := ck HG3 hE__; replace HG4 := ck HG4 hE__; replace HG5 := ck HG5 hE__; clear hE__; clear hg__ hb__ he__; simp only [PT])
 | ((with_reducible refine sl 19 ?_); (refine z1h rfl (.tmp 16) (.tmp 18) rfl _ _ rfl rfl (.int .i64 8) need_at2 ?_); simp only [PT])
 | ((with_reducible refine sl 18 ?_); (refine z01 rfl 3 (.tmp 17) rfl g3 0 rfl (.int .i64 2) HG3.out rfl Try.underlying3 rfl ?_); simp only [PT])
 | ((with_reducible refine sl 20 ?_); (refine z01 rfl 24 (.tmp 4) rfl g4 0 rfl (.slice ad n c) HG4.out rfl Try.underlying24 rfl ?_); simp only [PT])
 | ((with_reducible refine sl 30 ?_); (refine z01 rfl 3 (.tmp 29) rfl g3 0 rfl (.int .i64 2) HG3.out rfl Try.underlying3 rfl ?_); simp only [PT])
 | ((with_reducible refine sl 26 ?_); (refine z01 rfl 24 (.tmp 4) rfl g4 0 rfl (.slice ad n c) HG4.out rfl Try.underlying24 rfl ?_); simp only [PT])
 | ((with_reducible refine sl 28 ?_); (refine z0t elB rfl (.tmp 26) (some (.tmp 27)) none rfl rfl 8 n (.inr ⟨.i64, rfl⟩) (.inl ⟨rfl, rfl⟩) (by omega) (by omega) ?_); intro ad28 had28; have HRG := Hd (show ∀ w0, Bs w0 ad n c l → Bs w0 ad28 (n - 8) (c - 8) (l.drop 8) from fun w0 h0 => by rw [had28.out]; exact Bs.drop8 h0 8 (by omega)); clear had28; simp only [PT])
 | (go_at_call 82; (with_reducible show Calls _ _ #[Value.int .i64 0, Value.int .i64 2, _, _] _ _); (refine (z19 g4 g5 ad n c l big 0 2 (by omega) (by omega) _ (by exact HG4.out) (by exact HG5.out) (HS.out.below (HB.out.trans (Below.mono bup HB.out.size)))).mono ?_); intro e w5 hr; rw [← HL0.out] at hr; obtain ⟨rfl, hb__⟩ := hr; have hE__ := cU HB bup hb__; replace HB := ck HB hE__; replace HG3 := ck HG3 hE__; replace HG4 := ck HG4 hE__; replace HG5 := ck HG5 hE__; replace HG6 := ck HG6 hE__; clear hE__; clear hb__)
 | (go_at_call 82; (with_reducible show Calls _ _ #[Value.int .i64 4, Value.int .i64 4, _, _] _ _); (refine (z19 g4 g5 ad n c l big 4 4 (by omega) (by omega) _ (by exact HG4.out) (by exact HG5.out) (HS.out.below (HB.out.trans (Below.mono bup HB.out.size)))).mono ?_); intro e w6 hr; rw [← HS4.out] at hr; obtain ⟨rfl, hb__⟩ := hr; have hE__ := cU HB bup hb__; replace HB := ck HB hE__; replace HG3 := ck HG3 hE__; replace HG4 := ck HG4 hE__; replace HG5 := ck HG5 hE__; replace HG6 := ck HG6 hE__; clear hE__; clear hb__)
 | ((with_reducible show wpList _ _ _ (⟨none, .store _ (.tmp 51) (.tmp 47), _, _, _, _⟩ :: _) _ _); (refine z0c rfl 3 (.tmp 51) (.tmp 47) rfl g3 3 (.int .i64 (L0 : Int)) rfl rfl rfl HG3.out (by simp) (by kernel_rfl) #[.int .i64 2, .bool false, .int .u32 0, .int .i64 (L0 : Int), .int .u32 0, .int .i64 0, .int .u64 0, .int .u32 0, .slice none 0 0, .slice none 0 0, .slice none 0 0] rfl ?_); intro w7 hs__ hr__; replace HB := cg HB bup hr__ (by omega); replace HG4 := cg HG4 bup hr__ (by omega); replace HG5 := cg HG5 bup hr__ (by omega); replace HG6 := cg HG6 bup hr__ (by omega); clear HG3; have HG3 := Hd hs__; clear hs__ hr__; simp only [PT])
 | ((with_reducible show wpList _ _ _ (⟨none, .store _ (.tmp 52) (.tmp 50), _, _, _, _⟩ :: _) _ _); (refine z0c rfl 22 (.tmp 52) (.tmp 50) rfl g3 4 (.int .u32 (S4 : Int)) rfl rfl rfl HG3.out (by simp) (by kernel_rfl) #[.int .i64 2, .bool false, .int .u32 0, .int .i64 (L0 : Int), .int .u32 (S4 : Int), .int .i64 0, .int .u64 0, .int .u32 0, .slice none 0 0, .slice none 0 0, .slice none 0 0] rfl ?_); intro w8 hs__ hr__; replace HB := cg HB bup hr__ (by omega); replace HG4 := cg HG4 bup hr__ (by omega); replace HG5 := cg HG5 bup hr__ (by omega); replace HG6 := cg HG6 bup hr__ (by omega); clear HG3; have HG3 := Hd hs__; clear hs__ hr__; simp only [PT])
 | ((with_reducible refine sl 146 ?_); (refine z05 rfl 27 (.tmp 3) rfl g3 0 rfl [.int .i64 2, .bool false, .int .u32 0, .int .i64 (L0 : Int), .int .u32 (S4 : Int), .int .i64 0, .int .u64 0, .int .u32 0, .slice none 0 0, .slice none 0 0, .slice none 0 0] _ (z00 HG3.out) Try.underlying27 rfl HBI.out ?_); simp only [PT])
 | ((with_reducible show wpList _ _ _ (⟨none, .store _ (.tmp 6) (.tmp 146), _, _, _, _⟩ :: _) _ _); (refine z02 rfl 27 (.tmp 6) (.tmp 146) rfl g6 #[.int .i64 2, .bool false, .int .u32 0, .int .i64 (L0 : Int), .int .u32 (S4 : Int), .int .i64 0, .int .u64 0, .int .u32 0, .slice none 0 0, .slice none 0 0, .slice none 0 0] rfl rfl HG6.out HBI.out rfl (all1 _ rfl) ?_); intro w9 hs__ hr__; replace HB := cg HB bup hr__ (by omega); replace HG3 := cg HG3 bup hr__ (by omega); clear HG6; have HG6 := Hd hs__; clear hs__ hr__; simp only [PT]))
  all_goals
    (try simp only [Exit.inBlock, Exit.then, Exit.noGoto_ret])
    refine z04 (cs := [.int .i64 2, .bool false, .int .u32 0, .int .i64 (L0 : Int), .int .u32 (S4 : Int), .int .i64 0, .int .u64 0, .int .u32 0, .slice none 0 0, .slice none 0 0, .slice none 0 0]) rfl rfl (z00 HG6.out) Try.underlying27 rfl HBI.out rfl ?_
    refine ⟨⟨2, false, 0, (L0 : Int), S4, 0, 0, 0, none, 0, 0, [], none, 0, 0, [], none, 0, 0, []⟩, ad28, (n - 8), (c - 8), true, rfl, by rw [HO.out]; rfl, fun x r h => ?_, HB.out⟩
    have hh := HO.out.symm.trans h
    simp only [Option.some.injEq, Prod.mk.injEq] at hh
    obtain ⟨rfl, rfl⟩ := hh
    refine ⟨rfl, HRG.out, z1i _ _ _ _, OwnOps.nil _ _ _, OwnOps.nil _ _ _⟩
section
variable {P : Program} {ops : Array Oper} {Q : Exit → Act → World → Prop} {md : Region.Mode} {S : World → Prop} {t : Nat}
def wpAnyT (P : Program) (md : Region.Mode) (ops : Array Oper) (Q : Exit → Act → World → Prop) (S : World → Prop) (t : Nat) : Nat → Array Bool → Act → World → Prop
  | 0, listed, a, w => Region.ready md ops listed = [] ∧ Q .normal a w
  | fuel + 1, listed, a, w =>
    (Region.ready md ops listed = [] → Q .normal a w) ∧
    ∀ i ∈ Region.ready md ops listed, wpOp P ops Q i (fun a' w' => (i ≠ t → S w') ∧ wpAnyT P md ops Q S t fuel (listed.setIfInBounds i true) a' w') a w
theorem wpAny_of_T : ∀ (fuel : Nat) (listed : Array Bool) (a : Act) (w : World), wpAnyT P md ops Q S t fuel listed a w → wpAny P md ops Q fuel listed a w
  | 0, _, _, _, h => h
  | fuel + 1, _, _, _, h => ⟨h.1, fun i hi => wpOp_mono (fun a' w' h' => wpAny_of_T fuel _ a' w' h'.2) (h.2 i hi)⟩
theorem ready_waits {i j : Nat} {listed : Array Bool} (hi : listed.getD i true = false) (hw : Region.waitsFor md ops j i = true) (hj : j ∈ Region.ready md ops listed) : False := by
  obtain ⟨oj, hoj, e, he, hb, hon⟩ := Region.waitsFor_spec hw
  obtain ⟨_, ok, hok, hall⟩ := mem_ready.1 hj
  rw [hoj] at hok
  cases hok
  have h1 := hall e he hb
  rw [hon] at h1
  rcases Nat.lt_or_ge i listed.size with h' | h'
  · simp [h'] at hi h1
    rw [hi] at h1
    cases h1
  · simp [Array.getElem?_eq_none h'] at h1
theorem wpAnyT_first {i : Nat} {oi : Oper} {v : Value} (hi : ops[i]? = some oi) (hsel : ∀ (j : Nat) (o : Oper) cs b, ops[j]? = some o → o.op ≠ .select cs b)
    (hQ : ∀ c a w, Q (.panic c) (a.put oi.dst v) w → Q (.panic c) a w) (hti : Region.waitsFor md ops t i = true) :
    ∀ (fuel : Nat) (listed : Array Bool) (a : Act) (w : World),
      (∀ j oj, ops[j]? = some oj → j ≠ i → listed.getD j true = false → (∀ e ∈ oj.after, Region.binds md e = true → e.on ≠ i) → oi.apart ops oj = true) →
      i ∈ Region.ready md ops listed → YieldsIf P ops S oi v a → S w →
      wpAnyT P md ops Q S t fuel (listed.setIfInBounds i true) (a.put oi.dst v) w → wpAnyT P md ops Q S t (fuel + 1) listed a w := by
  intro fuel
  induction fuel with
  | zero =>
    intro listed a w _ hr hy hS H
    refine ⟨fun h => (by rw [h] at hr; cases hr), fun j hj => ?_⟩
    by_cases hji : j = i
    · subst hji
      exact hy.wpOp hi hS ⟨fun _ => hS, H⟩
    · have h1 := ready_mono hj hji
      rw [H.1] at h1
      cases h1
  | succ fuel ih =>
    intro listed a w hfree hr hy hS H
    refine ⟨fun h => (by rw [h] at hr; cases hr), fun j hj => ?_⟩
    have hun := (mem_ready.1 hr).1
    have hjt : j ≠ t := fun e => by subst e; exact ready_waits hun hti hj
    by_cases hji : j = i
    · subst hji
      exact hy.wpOp hi hS ⟨fun _ => hS, H⟩
    · obtain ⟨hjun, oj, hoj, hall⟩ := mem_ready.1 hj
      have hnot : ∀ e ∈ oj.after, Region.binds md e = true → e.on ≠ i := fun e he hb hon => ready_waits (j := j) hun (by
        unfold Region.waitsFor
        simp only [hoj]
        obtain ⟨k, hk, hke⟩ := Array.getElem_of_mem he
        exact Array.any_eq_true'.2 ⟨e, he, by simp [hb, hon]⟩) hj
      have h2 := wpOp_putIf hoj (hfree j oj hoj hji hjun hnot) (fun cs b => hsel i oi cs b hi) (fun cs b => hsel j oj cs b hoj) hQ hy (H.2 j (ready_mono hj hji))
      refine wpOp_mono (fun a' w' h3 => ⟨fun _ => h3.2.1 hjt, ih (listed.setIfInBounds j true) a' w' (fun k ok hk hki hku hno => hfree k ok hk hki ?_ hno) (ready_mono hr (Ne.symm hji)) h3.1 (h3.2.1 hjt) ?_⟩) h2
      · by_cases hjk : j = k
        · subst hjk; exact hjun
        · rw [getD_set_ne true hjk] at hku; exact hku
      · rw [Array.setIfInBounds_comm _ _ hji]
        exact h3.2.2
theorem tkT (t : Nat) (i : Nat) {oi : Oper} {v : Value} {fuel : Nat} {listed : Array Bool} {a : Act} {w : World} (hi : ops[i]? = some oi)
    (hk : (Region.noSelect ops && (Region.free md ops listed i && ((Region.ready md ops listed).contains i && Region.waitsFor md ops t i))) = true) (hy : YieldsIf P ops S oi v a) (hS : S w)
    (h : wpAnyT P md ops Q S t fuel (listed.setIfInBounds i true) (a.put oi.dst v) w) (hQ : ∀ c a w, Q (.panic c) (a.put oi.dst v) w → Q (.panic c) a w := by exact fun _ _ _ h => h) : wpAnyT P md ops Q S t (fuel + 1) listed a w := by
  simp only [Bool.and_eq_true] at hk
  exact wpAnyT_first hi (Region.noSelect_spec hk.1) hQ hk.2.2.2 fuel listed a w (Region.free_spec hi hk.2.1) (by simpa using hk.2.2.1) hy hS h
theorem z2a {listed : Array Bool} {a : Act} {w : World} (hr : Region.ready md ops listed = []) (h : Q .normal a w) : ∀ fuel, wpAnyT P md ops Q S t fuel listed a w
  | 0 => ⟨hr, h⟩
  | _ + 1 => ⟨fun _ => h, by rw [hr]; simp⟩
def AllReadyT (P : Program) (md : Region.Mode) (ops : Array Oper) (Q : Exit → Act → World → Prop) (S : World → Prop) (t fuel : Nat) (listed : Array Bool) (a : Act) (w : World) (rs : List Nat) : Prop :=
  ∀ i ∈ rs, wpOp P ops Q i (fun a' w' => (i ≠ t → S w') ∧ wpAnyT P md ops Q S t fuel (listed.setIfInBounds i true) a' w') a w
theorem AllReadyT.nil {fuel : Nat} {listed : Array Bool} {a : Act} {w : World} : AllReadyT P md ops Q S t fuel listed a w [] := fun _ h => by cases h
theorem AllReadyT.cons {fuel : Nat} {listed : Array Bool} {a : Act} {w : World} {i : Nat} {o : Oper} {rs : List Nat} (ho : ops[i]? = some o)
    (h : ∀ K' : Act → World → Prop, Shut (∀ a w, (i ≠ t → S w) → ((i ≠ t → S w) → wpAnyT P md ops Q S t fuel (listed.setIfInBounds i true) a w) → K' a w) → if Region.wanted o (yielded ops a.tmps) = true then Oper.wp P o a w K' Q else K' (a.put o.dst undef) w)
    (hs : AllReadyT P md ops Q S t fuel listed a w rs) : AllReadyT P md ops Q S t fuel listed a w (i :: rs) := fun j hj => by
  rcases List.mem_cons.1 hj with rfl | hj
  · exact wpOp_step ho (fun K' hK => h K' (fun a w hS hW => hK a w ⟨hS, hW hS⟩))
  · exact hs j hj
theorem z0f {rs : List Nat} {fuel : Nat} {listed : Array Bool} {a : Act} {w : World} (hr : Region.ready md ops listed = rs) (hne : rs ≠ [])
    (h : AllReadyT P md ops Q S t fuel listed a w rs) : wpAnyT P md ops Q S t (fuel + 1) listed a w :=
  ⟨fun h0 => absurd (hr ▸ h0) hne, hr ▸ h⟩
theorem wp_region_T {id : Nat} {a : Act} {w : World} (t : Nat) (hm : P.follows .mixedOrders = true) (hS : S w.drew)
    (h : S w.drew → wpAnyT P .any ops Q S t ops.size (Array.replicate ops.size false) a w.drew) : (Code.region id ops true).wp P Q a w :=
  wp_region_any hm (wpAny_of_T _ _ _ _ (h hS))
end
end Go.Proofs.Ytmfplinbbcoahaa
