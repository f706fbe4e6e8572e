-- Written by a program of this session (wip/myprint.py).
import Derived.Test.YtpcdcanmbokpfaaPPHx0
import Derived.Test.YtpcdcanmbokpfaaPPHx3
import Derived.Test.YtpcdcanmbokpfaaPPHx4
import Derived.Test.YtpcdcanmbokpfaaPPHx13
namespace Go.Proofs.Ytpcdcanmbokpfaa.PPH
open Go.RowKit Go.Proofs.YtpcdcanmbokpfaaW.PrintWords Go.Proofs.YtpcdcanmbokpfaaW.PrintLast Go.Proofs.YtpcdcanmbokpfaaW.PrintMore
attribute [local go_sem] max2_int min2_int max_two min_two max_three min_three max_four min_four   -- for this text's walks alone
set_option linter.unusedVariables false
set_option linter.unusedSimpArgs false

/-! ### perm_Split: function 23 -/
mutual
def perm_Split.j0 : Nat → Int → Int → Int → Bool → Bool → Int → Int → Int → Int → Int → Int → Int → Option (Int × Int × Int × Int × Int × Int × Int × Int × Int × Int × Int)
 | 0, _, _, _, _, _, _, _, _, _, _, _, _ => none
 | k + 1, x1, x3, x11, x12, x13, x204000, x204001, x204002, x204003, x204004, x205000, x205001 => if x12 = true then ((rat_Right.f k x204001 x204002).bind fun t209 => (if t209 = true then ((rat_Right.f k x205000 x205001).bind fun t210 => (if t210 = true then (if x205000 ≤ 0 then (perm_Split.j1 k x1 x3 x11 x13 true x204000 x204001 x204002 x204003 x204004 x205000 x205001) else (if x205000 ≥ x205001 then (perm_Split.j1 k x1 x3 x11 x13 true x204000 x204001 x204002 x204003 x204004 x205000 x205001) else (perm_Split.j1 k x1 x3 x11 x13 (x13 != (x3 != 0)) x204000 x204001 x204002 x204003 x204004 x205000 x205001))) else (perm_Split.j1 k x1 x3 x11 x13 true x204000 x204001 x204002 x204003 x204004 x205000 x205001))) else (perm_Split.j1 k x1 x3 x11 x13 true x204000 x204001 x204002 x204003 x204004 x205000 x205001))) else (perm_Split.j1 k x1 x3 x11 x13 true x204000 x204001 x204002 x204003 x204004 x205000 x205001)
def perm_Split.j1 : Nat → Int → Int → Int → Bool → Bool → Int → Int → Int → Int → Int → Int → Int → Option (Int × Int × Int × Int × Int × Int × Int × Int × Int × Int × Int)
 | 0, _, _, _, _, _, _, _, _, _, _, _, _ => none
 | k + 1, x1, x3, x11, x13, x61, x204000, x204001, x204002, x204003, x204004, x205000, x205001 => if x61 = true then (some (0, 0, 0, 0, 0, 0, 0, 0, 0, 0, 2)) else ((perm_parts.f k x204001 x204002 x205000 x205001).bind fun bt211 => (if bt211.2.2.2.2 = 0 then (if x13 = true then (perm_Split.j2 k x1 x3 x11 x204000 x204001 x204002 x204003 x204004 bt211.1 bt211.2.1 bt211.2.2.1 bt211.2.2.2.1) else (perm_Split.j2 k x1 x204004 x11 x204000 x204001 x204002 x204003 x204004 bt211.1 bt211.2.1 bt211.2.2.1 bt211.2.2.2.1)) else (some (0, 0, 0, 0, 0, 0, 0, 0, 0, 0, bt211.2.2.2.2))))
def perm_Split.j2 : Nat → Int → Int → Int → Int → Int → Int → Int → Int → Int → Int → Int → Int → Option (Int × Int × Int × Int × Int × Int × Int × Int × Int × Int × Int)
 | 0, _, _, _, _, _, _, _, _, _, _, _, _ => none
 | k + 1, x1, x3, x11, x204000, x204001, x204002, x204003, x204004, x217000, x217001, x218000, x218001 => some (x11, x217000, x217001, x204003, x3, x1, x218000, x218001, x204003, x3, 0)
end
def perm_Split.f (k : Nat) (a0_0 : Int) (a0_1 : Int) (a0_2 : Int) (a0_3 : Int) (a0_4 : Int) (a1 : Int) (a2_0 : Int) (a2_1 : Int) (a3 : Int) : Option (Int × Int × Int × Int × Int × Int × Int × Int × Int × Int × Int) := (perm_left.f k a0_0 a1).bind fun bt207 => (if a0_0 = 0 then (perm_Split.j0 k a1 a3 bt207.1 bt207.2 (a1 != 3) a0_0 a0_1 a0_2 a0_3 a0_4 a2_0 a2_1) else (perm_Split.j0 k a1 a3 bt207.1 bt207.2 false a0_0 a0_1 a0_2 a0_3 a0_4 a2_0 a2_1))
theorem perm_Split.mono_l : ∀ k, (∀ y0 y1 y2 y3 y4 y5 y6 y7 y8 y9 y10 y11, LeO (perm_Split.j0 k y0 y1 y2 y3 y4 y5 y6 y7 y8 y9 y10 y11) (perm_Split.j0 (k + 1) y0 y1 y2 y3 y4 y5 y6 y7 y8 y9 y10 y11)) ∧ (∀ y0 y1 y2 y3 y4 y5 y6 y7 y8 y9 y10 y11, LeO (perm_Split.j1 k y0 y1 y2 y3 y4 y5 y6 y7 y8 y9 y10 y11) (perm_Split.j1 (k + 1) y0 y1 y2 y3 y4 y5 y6 y7 y8 y9 y10 y11)) ∧ (∀ y0 y1 y2 y3 y4 y5 y6 y7 y8 y9 y10 y11, LeO (perm_Split.j2 k y0 y1 y2 y3 y4 y5 y6 y7 y8 y9 y10 y11) (perm_Split.j2 (k + 1) y0 y1 y2 y3 y4 y5 y6 y7 y8 y9 y10 y11))
 | 0 => ⟨fun _ _ _ _ _ _ _ _ _ _ _ _ r h => by simp [perm_Split.j0] at h, fun _ _ _ _ _ _ _ _ _ _ _ _ r h => by simp [perm_Split.j1] at h, fun _ _ _ _ _ _ _ _ _ _ _ _ r h => by simp [perm_Split.j2] at h⟩
 | k + 1 => by
  obtain ⟨ih0, ih1, ih2⟩ := perm_Split.mono_l k
  refine ⟨?_, ?_, ?_⟩
  ·intro y0 y1 y2 y3 y4 y5 y6 y7 y8 y9 y10 y11
   unfold perm_Split.j0
   repeat' first
   | (with_reducible exact ih0 _ _ _ _ _ _ _ _ _ _ _ _)
   | (with_reducible exact ih1 _ _ _ _ _ _ _ _ _ _ _ _)
   | (with_reducible exact ih2 _ _ _ _ _ _ _ _ _ _ _ _)
   | (with_reducible exact perm_left.mono _ _ _)
   | (with_reducible exact perm_parts.mono _ _ _ _ _)
   | (with_reducible exact rat_Right.mono _ _ _)
   | (with_reducible exact LeO.refl _)
   | (with_reducible exact LeO.none _)
   | (with_reducible refine LeO.ite ?_ ?_)
   | (with_reducible refine LeO.bind ?_ (fun _ => ?_))
   | exact ih0 _ _ _ _ _ _ _ _ _ _ _ _
   | exact ih1 _ _ _ _ _ _ _ _ _ _ _ _
   | exact ih2 _ _ _ _ _ _ _ _ _ _ _ _
   | exact perm_left.mono _ _ _
   | exact perm_parts.mono _ _ _ _ _
   | exact rat_Right.mono _ _ _
   | exact LeO.none _
   | refine LeO.ite ?_ ?_
   | refine LeO.bind ?_ (fun _ => ?_)
  ·intro y0 y1 y2 y3 y4 y5 y6 y7 y8 y9 y10 y11
   unfold perm_Split.j1
   repeat' first
   | (with_reducible exact ih0 _ _ _ _ _ _ _ _ _ _ _ _)
   | (with_reducible exact ih1 _ _ _ _ _ _ _ _ _ _ _ _)
   | (with_reducible exact ih2 _ _ _ _ _ _ _ _ _ _ _ _)
   | (with_reducible exact perm_left.mono _ _ _)
   | (with_reducible exact perm_parts.mono _ _ _ _ _)
   | (with_reducible exact rat_Right.mono _ _ _)
   | (with_reducible exact LeO.refl _)
   | (with_reducible exact LeO.none _)
   | (with_reducible refine LeO.ite ?_ ?_)
   | (with_reducible refine LeO.bind ?_ (fun _ => ?_))
   | exact ih0 _ _ _ _ _ _ _ _ _ _ _ _
   | exact ih1 _ _ _ _ _ _ _ _ _ _ _ _
   | exact ih2 _ _ _ _ _ _ _ _ _ _ _ _
   | exact perm_left.mono _ _ _
   | exact perm_parts.mono _ _ _ _ _
   | exact rat_Right.mono _ _ _
   | exact LeO.none _
   | refine LeO.ite ?_ ?_
   | refine LeO.bind ?_ (fun _ => ?_)
  ·intro y0 y1 y2 y3 y4 y5 y6 y7 y8 y9 y10 y11
   unfold perm_Split.j2
   repeat' first
   | (with_reducible exact ih0 _ _ _ _ _ _ _ _ _ _ _ _)
   | (with_reducible exact ih1 _ _ _ _ _ _ _ _ _ _ _ _)
   | (with_reducible exact ih2 _ _ _ _ _ _ _ _ _ _ _ _)
   | (with_reducible exact perm_left.mono _ _ _)
   | (with_reducible exact perm_parts.mono _ _ _ _ _)
   | (with_reducible exact rat_Right.mono _ _ _)
   | (with_reducible exact LeO.refl _)
   | (with_reducible exact LeO.none _)
   | (with_reducible refine LeO.ite ?_ ?_)
   | (with_reducible refine LeO.bind ?_ (fun _ => ?_))
   | exact ih0 _ _ _ _ _ _ _ _ _ _ _ _
   | exact ih1 _ _ _ _ _ _ _ _ _ _ _ _
   | exact ih2 _ _ _ _ _ _ _ _ _ _ _ _
   | exact perm_left.mono _ _ _
   | exact perm_parts.mono _ _ _ _ _
   | exact rat_Right.mono _ _ _
   | exact LeO.none _
   | refine LeO.ite ?_ ?_
   | refine LeO.bind ?_ (fun _ => ?_)
theorem perm_Split.mono : ∀ a0 a1 a2 a3 a4 a5 a6 a7 a8 k, LeO (perm_Split.f k a0 a1 a2 a3 a4 a5 a6 a7 a8) (perm_Split.f (k + 1) a0 a1 a2 a3 a4 a5 a6 a7 a8) := by
 intro a0 a1 a2 a3 a4 a5 a6 a7 a8 k
 obtain ⟨ih0, ih1, ih2⟩ := perm_Split.mono_l k
 unfold perm_Split.f
 repeat' first
   | (with_reducible exact ih0 _ _ _ _ _ _ _ _ _ _ _ _)
   | (with_reducible exact ih1 _ _ _ _ _ _ _ _ _ _ _ _)
   | (with_reducible exact ih2 _ _ _ _ _ _ _ _ _ _ _ _)
   | (with_reducible exact perm_left.mono _ _ _)
   | (with_reducible exact perm_parts.mono _ _ _ _ _)
   | (with_reducible exact rat_Right.mono _ _ _)
   | (with_reducible exact LeO.refl _)
   | (with_reducible exact LeO.none _)
   | (with_reducible refine LeO.ite ?_ ?_)
   | (with_reducible refine LeO.bind ?_ (fun _ => ?_))
   | exact ih0 _ _ _ _ _ _ _ _ _ _ _ _
   | exact ih1 _ _ _ _ _ _ _ _ _ _ _ _
   | exact ih2 _ _ _ _ _ _ _ _ _ _ _ _
   | exact perm_left.mono _ _ _
   | exact perm_parts.mono _ _ _ _ _
   | exact rat_Right.mono _ _ _
   | exact LeO.none _
   | refine LeO.ite ?_ ?_
   | refine LeO.bind ?_ (fun _ => ?_)
def perm_Split.T10 : Bool × List (List Nat × List Nat) := (true, [([], []), ([], []), ([], []), ([2], [2]), ([], []), ([0, 1, 3, 4], [0, 1, 3, 4]), ([], []), ([], []), ([], []), ([8], [8]), ([], []), ([6, 7, 9, 10], [6, 7, 9, 10]), ([5, 0, 1, 2, 3, 4, 5], [5]), ([11, 12, 0, 1, 2, 3, 4, 5, 6, 7, 8, 9, 10, 11, 12], [11]), ([13, 0, 1, 2, 3, 4, 5, 6, 7, 8, 9, 10, 11, 12, 13], [])])
def perm_Split.B10 : List Nat := [0, 0, 0, 4, 0, 31, 0, 0, 0, 256, 0, 1984, 63, 8191, 16383]
theorem perm_Split.tab10 : rtab .any (opsOf Try.f23 10) = perm_Split.T10 := by kernel_rfl
theorem perm_Split.bits10 : waitsOk perm_Split.T10.2 perm_Split.B10 = true := by kernel_rfl
set_option maxHeartbeats 8000000 in
set_option maxRecDepth 100000 in
theorem perm_Split.calls (k : Nat) (a0_0 : Int) (a0_1 : Int) (a0_2 : Int) (a0_3 : Int) (a0_4 : Int) (a1 : Int) (a2_0 : Int) (a2_1 : Int) (a3 : Int) (r1 : Int) (r2 : Int) (r3 : Int) (r4 : Int) (r5 : Int) (r6 : Int) (r7 : Int) (r8 : Int) (r9 : Int) (r10 : Int) (r11 : Int) (w : World) (h : perm_Split.f k a0_0 a0_1 a0_2 a0_3 a0_4 a1 a2_0 a2_1 a3 = some (r1, r2, r3, r4, r5, r6, r7, r8, r9, r10, r11)) :
  Calls Try.prog 23 #[.agg #[.int .i64 a0_0, .int .i64 a0_1, .int .i64 a0_2, .int .i64 a0_3, .int .u32 a0_4], .int .i64 a1, .agg #[.int .i64 a2_0, .int .i64 a2_1], .int .u32 a3] w fun e w' => e = .returned (.tuple #[.agg #[.int .i64 r1, .int .i64 r2, .int .i64 r3, .int .i64 r4, .int .u32 r5], .agg #[.int .i64 r6, .int .i64 r7, .int .i64 r8, .int .i64 r9, .int .u32 r10], .int .i64 r11]) ∧ Below w.heap.size w w' := by
 have hu40 := Try.underlying40
 have hu23 := Try.underlying23
 have HB := Aside0.mk (Below.refl w.heap.size w)
 have H : ((perm_left.f k a0_0 a1).bind fun bt207 => (if a0_0 = 0 then (perm_Split.j0 k a1 a3 bt207.1 bt207.2 (a1 != 3) a0_0 a0_1 a0_2 a0_3 a0_4 a2_0 a2_1) else (perm_Split.j0 k a1 a3 bt207.1 bt207.2 false a0_0 a0_1 a0_2 a0_3 a0_4 a2_0 a2_1))) = some (r1, r2, r3, r4, r5, r6, r7, r8, r9, r10, r11) := h
 clear h
 replace H := Option.bind_eq_some_iff.mp H
 obtain ⟨⟨t207, t208⟩, A50, H⟩ := H
 replace H : (if a0_0 = 0 then (perm_Split.j0 k a1 a3 t207 t208 (a1 != 3) a0_0 a0_1 a0_2 a0_3 a0_4 a2_0 a2_1) else (perm_Split.j0 k a1 a3 t207 t208 false a0_0 a0_1 a0_2 a0_3 a0_4 a2_0 a2_1)) = some (r1, r2, r3, r4, r5, r6, r7, r8, r9, r10, r11) := H
 have A5 := Aside0.mk A50
 clear A50
 have HC6 := Aside0.mk H
 clear H
 go_enter Try.func23, Try.ntmps23
 go_upto_region 2 with (first | ((with_reducible refine gate_dst (N := 4) rfl ?_); refine box_event ?hg (N := 4) ?hd (cs := #[.int .i64 a0_0, .int .i64 a0_1, .int .i64 a0_2, .int .i64 a0_3, .int .u32 a0_4]) (t := 40) ?hr ?_; (case hd => rfl); (case hg => rfl); (case hr => first | (go_simp; done) | (go_simp; rfl)); intro gb203 hg w7 hbox hb; have n0_ := Aside0.mk (below_step (by repeat (first | (with_reducible first | exact HB.out | apply below_alloc | apply pw_below_drewN | apply below_drew1) | exact HB.out)) hb); have n1_ := Aside0.mk (hbox); have n2_ := Aside0.mk ((by rw [hg]; exact (below_size (by repeat (first | (with_reducible first | exact HB.out | apply below_alloc | apply pw_below_drewN | apply below_drew1) | exact HB.out))) : w.heap.size ≤ gb203)); have n3_ := Aside0.mk ((by rw [hg]; exact (below_size (by repeat (first | (with_reducible first | exact HB.out | apply below_alloc | apply pw_below_drewN | apply below_drew1) | exact HB.out))) : w.heap.size ≤ gb203)); clear HB; have HB := n0_; have BK203 := n1_; have GW203 := n2_; have GE203 := n3_; clear n0_ n1_ n2_ n3_; clear hb hbox hg) | ((with_reducible refine gate_dst (N := 6) rfl ?_); refine box_event ?hg (N := 6) ?hd (cs := #[.int .i64 a2_0, .int .i64 a2_1]) (t := 23) ?hr ?_; (case hd => rfl); (case hg => rfl); (case hr => first | (go_simp; done) | (go_simp; rfl)); intro gb204 hg w8 hbox hb; have n0_ := Aside0.mk (blk_below (g := gb203) (o := .cells #[.int .i64 a0_0, .int .i64 a0_1, .int .i64 a0_2, .int .i64 a0_3, .int .u32 a0_4] 40 (0, 0)) (by (with_reducible repeat (first | apply blk_drewN | apply blk_drew | apply blk_alloc)); exact BK203.out) hb); have n1_ := Aside0.mk (below_step (by repeat (first | (with_reducible first | exact HB.out | apply below_alloc | apply pw_below_drewN | apply below_drew1 | refine below_set ?_ GE203.out) | exact HB.out)) hb); have n2_ := Aside0.mk (hbox); have n3_ := Aside0.mk ((by rw [hg]; exact (below_size (by repeat (first | (with_reducible first | exact HB.out | apply below_alloc | apply pw_below_drewN | apply below_drew1 | refine below_set ?_ GE203.out) | exact HB.out))) : w.heap.size ≤ gb204)); have n4_ := Aside0.mk ((by rw [hg]; exact (below_size (by repeat (first | (with_reducible first | exact HB.out | apply below_alloc | apply pw_below_drewN | apply below_drew1 | refine below_set ?_ GE203.out) | exact HB.out))) : w.heap.size ≤ gb204)); have n5_ := Aside0.mk ((by rw [hg]; exact Nat.ne_of_lt (blk_lt (g := gb203) (o := .cells #[.int .i64 a0_0, .int .i64 a0_1, .int .i64 a0_2, .int .i64 a0_3, .int .u32 a0_4] 40 (0, 0)) (by (with_reducible repeat (first | apply blk_drewN | apply blk_drew | apply blk_alloc)); exact BK203.out)) : gb203 ≠ gb204)); have n6_ := Aside0.mk ((by rw [hg]; exact Nat.ne_of_gt (blk_lt (g := gb203) (o := .cells #[.int .i64 a0_0, .int .i64 a0_1, .int .i64 a0_2, .int .i64 a0_3, .int .u32 a0_4] 40 (0, 0)) (by (with_reducible repeat (first | apply blk_drewN | apply blk_drew | apply blk_alloc)); exact BK203.out)) : gb204 ≠ gb203)); clear BK203; clear HB; have BK203 := n0_; have HB := n1_; have BK204 := n2_; have GW204 := n3_; have GE204 := n4_; have NB203_204 := n5_; have NB204_203 := n6_; clear n0_ n1_ n2_ n3_ n4_ n5_ n6_; clear hb hbox hg) | ((with_reducible refine gate_dst (N := 8) rfl ?_); refine box_event ?hg (N := 8) ?hd (cs := #[.int .i64 0, .int .i64 0, .int .i64 0, .int .i64 0, .int .u32 0]) (t := 40) ?hr ?_; (case hd => rfl); (case hg => rfl); (case hr => first | (go_simp; done) | (go_simp; rfl)); intro gb205 hg w9 hbox hb; have n0_ := Aside0.mk (blk_below (g := gb203) (o := .cells #[.int .i64 a0_0, .int .i64 a0_1, .int .i64 a0_2, .int .i64 a0_3, .int .u32 a0_4] 40 (0, 0)) (by (with_reducible repeat (first | apply blk_drewN | apply blk_drew | apply blk_alloc)); exact BK203.out) hb); have n1_ := Aside0.mk (blk_below (g := gb204) (o := .cells #[.int .i64 a2_0, .int .i64 a2_1] 23 (0, 0)) (by (with_reducible repeat (first | apply blk_drewN | apply blk_drew | apply blk_alloc)); exact BK204.out) hb); have n2_ := Aside0.mk (below_step (by repeat (first | (with_reducible first | exact HB.out | apply below_alloc | apply pw_below_drewN | apply below_drew1 | refine below_set ?_ GE203.out | refine below_set ?_ GE204.out) | exact HB.out)) hb); have n3_ := Aside0.mk (hbox); have n4_ := Aside0.mk ((by rw [hg]; exact (below_size (by repeat (first | (with_reducible first | exact HB.out | apply below_alloc | apply pw_below_drewN | apply below_drew1 | refine below_set ?_ GE203.out | refine below_set ?_ GE204.out) | exact HB.out))) : w.heap.size ≤ gb205)); have n5_ := Aside0.mk ((by rw [hg]; exact (below_size (by repeat (first | (with_reducible first | exact HB.out | apply below_alloc | apply pw_below_drewN | apply below_drew1 | refine below_set ?_ GE203.out | refine below_set ?_ GE204.out) | exact HB.out))) : w.heap.size ≤ gb205)); have n6_ := Aside0.mk ((by rw [hg]; exact Nat.ne_of_lt (blk_lt (g := gb203) (o := .cells #[.int .i64 a0_0, .int .i64 a0_1, .int .i64 a0_2, .int .i64 a0_3, .int .u32 a0_4] 40 (0, 0)) (by (with_reducible repeat (first | apply blk_drewN | apply blk_drew | apply blk_alloc)); exact BK203.out)) : gb203 ≠ gb205)); have n7_ := Aside0.mk ((by rw [hg]; exact Nat.ne_of_gt (blk_lt (g := gb203) (o := .cells #[.int .i64 a0_0, .int .i64 a0_1, .int .i64 a0_2, .int .i64 a0_3, .int .u32 a0_4] 40 (0, 0)) (by (with_reducible repeat (first | apply blk_drewN | apply blk_drew | apply blk_alloc)); exact BK203.out)) : gb205 ≠ gb203)); have n8_ := Aside0.mk ((by rw [hg]; exact Nat.ne_of_lt (blk_lt (g := gb204) (o := .cells #[.int .i64 a2_0, .int .i64 a2_1] 23 (0, 0)) (by (with_reducible repeat (first | apply blk_drewN | apply blk_drew | apply blk_alloc)); exact BK204.out)) : gb204 ≠ gb205)); have n9_ := Aside0.mk ((by rw [hg]; exact Nat.ne_of_gt (blk_lt (g := gb204) (o := .cells #[.int .i64 a2_0, .int .i64 a2_1] 23 (0, 0)) (by (with_reducible repeat (first | apply blk_drewN | apply blk_drew | apply blk_alloc)); exact BK204.out)) : gb205 ≠ gb204)); clear BK203; clear BK204; clear HB; have BK203 := n0_; have BK204 := n1_; have HB := n2_; have BK205 := n3_; have GW205 := n4_; have GE205 := n5_; have NB203_205 := n6_; have NB205_203 := n7_; have NB204_205 := n8_; have NB205_204 := n9_; clear n0_ n1_ n2_ n3_ n4_ n5_ n6_ n7_ n8_ n9_; clear hb hbox hg) | ((with_reducible refine gate_dst (N := 9) rfl ?_); refine box_event ?hg (N := 9) ?hd (cs := #[.int .i64 0, .int .i64 0, .int .i64 0, .int .i64 0, .int .u32 0]) (t := 40) ?hr ?_; (case hd => rfl); (case hg => rfl); (case hr => first | (go_simp; done) | (go_simp; rfl)); intro gb206 hg w10 hbox hb; have n0_ := Aside0.mk (blk_below (g := gb203) (o := .cells #[.int .i64 a0_0, .int .i64 a0_1, .int .i64 a0_2, .int .i64 a0_3, .int .u32 a0_4] 40 (0, 0)) (by (with_reducible repeat (first | apply blk_drewN | apply blk_drew | apply blk_alloc)); exact BK203.out) hb); have n1_ := Aside0.mk (blk_below (g := gb204) (o := .cells #[.int .i64 a2_0, .int .i64 a2_1] 23 (0, 0)) (by (with_reducible repeat (first | apply blk_drewN | apply blk_drew | apply blk_alloc)); exact BK204.out) hb); have n2_ := Aside0.mk (blk_below (g := gb205) (o := .cells #[.int .i64 0, .int .i64 0, .int .i64 0, .int .i64 0, .int .u32 0] 40 (0, 0)) (by (with_reducible repeat (first | apply blk_drewN | apply blk_drew | apply blk_alloc)); exact BK205.out) hb); have n3_ := Aside0.mk (below_step (by repeat (first | (with_reducible first | exact HB.out | apply below_alloc | apply pw_below_drewN | apply below_drew1 | refine below_set ?_ GE203.out | refine below_set ?_ GE204.out | refine below_set ?_ GE205.out) | exact HB.out)) hb); have n4_ := Aside0.mk (hbox); have n5_ := Aside0.mk ((by rw [hg]; exact (below_size (by repeat (first | (with_reducible first | exact HB.out | apply below_alloc | apply pw_below_drewN | apply below_drew1 | refine below_set ?_ GE203.out | refine below_set ?_ GE204.out | refine below_set ?_ GE205.out) | exact HB.out))) : w.heap.size ≤ gb206)); have n6_ := Aside0.mk ((by rw [hg]; exact (below_size (by repeat (first | (with_reducible first | exact HB.out | apply below_alloc | apply pw_below_drewN | apply below_drew1 | refine below_set ?_ GE203.out | refine below_set ?_ GE204.out | refine below_set ?_ GE205.out) | exact HB.out))) : w.heap.size ≤ gb206)); have n7_ := Aside0.mk ((by rw [hg]; exact Nat.ne_of_lt (blk_lt (g := gb203) (o := .cells #[.int .i64 a0_0, .int .i64 a0_1, .int .i64 a0_2, .int .i64 a0_3, .int .u32 a0_4] 40 (0, 0)) (by (with_reducible repeat (first | apply blk_drewN | apply blk_drew | apply blk_alloc)); exact BK203.out)) : gb203 ≠ gb206)); have n8_ := Aside0.mk ((by rw [hg]; exact Nat.ne_of_gt (blk_lt (g := gb203) (o := .cells #[.int .i64 a0_0, .int .i64 a0_1, .int .i64 a0_2, .int .i64 a0_3, .int .u32 a0_4] 40 (0, 0)) (by (with_reducible repeat (first | apply blk_drewN | apply blk_drew | apply blk_alloc)); exact BK203.out)) : gb206 ≠ gb203)); have n9_ := Aside0.mk ((by rw [hg]; exact Nat.ne_of_lt (blk_lt (g := gb204) (o := .cells #[.int .i64 a2_0, .int .i64 a2_1] 23 (0, 0)) (by (with_reducible repeat (first | apply blk_drewN | apply blk_drew | apply blk_alloc)); exact BK204.out)) : gb204 ≠ gb206)); have n10_ := Aside0.mk ((by rw [hg]; exact Nat.ne_of_gt (blk_lt (g := gb204) (o := .cells #[.int .i64 a2_0, .int .i64 a2_1] 23 (0, 0)) (by (with_reducible repeat (first | apply blk_drewN | apply blk_drew | apply blk_alloc)); exact BK204.out)) : gb206 ≠ gb204)); have n11_ := Aside0.mk ((by rw [hg]; exact Nat.ne_of_lt (blk_lt (g := gb205) (o := .cells #[.int .i64 0, .int .i64 0, .int .i64 0, .int .i64 0, .int .u32 0] 40 (0, 0)) (by (with_reducible repeat (first | apply blk_drewN | apply blk_drew | apply blk_alloc)); exact BK205.out)) : gb205 ≠ gb206)); have n12_ := Aside0.mk ((by rw [hg]; exact Nat.ne_of_gt (blk_lt (g := gb205) (o := .cells #[.int .i64 0, .int .i64 0, .int .i64 0, .int .i64 0, .int .u32 0] 40 (0, 0)) (by (with_reducible repeat (first | apply blk_drewN | apply blk_drew | apply blk_alloc)); exact BK205.out)) : gb206 ≠ gb205)); clear BK203; clear BK204; clear BK205; clear HB; have BK203 := n0_; have BK204 := n1_; have BK205 := n2_; have HB := n3_; have BK206 := n4_; have GW206 := n5_; have GE206 := n6_; have NB203_206 := n7_; have NB206_203 := n8_; have NB204_206 := n9_; have NB206_204 := n10_; have NB205_206 := n11_; have NB206_205 := n12_; clear n0_ n1_ n2_ n3_ n4_ n5_ n6_ n7_ n8_ n9_ n10_ n11_ n12_; clear hb hbox hg; have hnb11 := NB203_204.out; have hnc11 := NB204_203.out; have hnb12 := NB203_205.out; have hnc12 := NB205_203.out; have hnb13 := NB203_206.out; have hnc13 := NB206_203.out; have hcz14_0 : w10.cell? ⟨gb203, 0, none⟩ = some (.int .i64 a0_0) := (blk_cell BK203.out 0).trans rfl; have hcz14_1 : w10.cell? ⟨gb203, 1, none⟩ = some (.int .i64 a0_1) := (blk_cell BK203.out 1).trans rfl; have hcz14_2 : w10.cell? ⟨gb203, 2, none⟩ = some (.int .i64 a0_2) := (blk_cell BK203.out 2).trans rfl; have hcz14_3 : w10.cell? ⟨gb203, 3, none⟩ = some (.int .i64 a0_3) := (blk_cell BK203.out 3).trans rfl; have hcz14_4 : w10.cell? ⟨gb203, 4, none⟩ = some (.int .u32 a0_4) := (blk_cell BK203.out 4).trans rfl; have hfz14_0 := blk_frozen BK203.out 0; have hfz14_1 := blk_frozen BK203.out 1; have hfz14_2 := blk_frozen BK203.out 2; have hfz14_3 := blk_frozen BK203.out 3; have hfz14_4 := blk_frozen BK203.out 4) | ((with_reducible refine gate_callee (f := 38) rfl ?_); refine goesL_ (some 21) rfl rfl Try.func38 (by kernel_rfl) rfl #[.int .i64 a0_0, .int .i64 a1] rfl (by (try simp only [List.map_toArray, List.map_cons, List.map_nil]); first | done | rfl | (simp only [List.length_drop, List.length_take]; rfl)) ?_; (with_reducible refine (perm_left.calls k a0_0 a1 t207 t208 _ A5.out).mono ?_); rintro e w' ⟨rfl, ⟨nd, rfl⟩⟩; refine ⟨_, rfl, ?_⟩))
 (try simp only [Act.put, List.setIfInBounds_toArray, List.set_cons_zero, List.set_cons_succ])
 go_cut [13] (fun v13 wc => ∃ (kq : Nat) (x13_5 : Bool), v13 = .bool x13_5 ∧ Aside0 (perm_Split.j0 kq a1 a3 t207 t208 x13_5 a0_0 a0_1 a0_2 a0_3 a0_4 a2_0 a2_1 = some (r1, r2, r3, r4, r5, r6, r7, r8, r9, r10, r11)) ∧ Aside0 (kq ≤ k) ∧ Aside0 (wc.heap[gb203]? = some (.cells #[.int .i64 a0_0, .int .i64 a0_1, .int .i64 a0_2, .int .i64 a0_3, .int .u32 a0_4] 40 (0, 0))) ∧ Aside0 (wc.heap[gb204]? = some (.cells #[.int .i64 a2_0, .int .i64 a2_1] 23 (0, 0))) ∧ Aside0 (wc.heap[gb205]? = some (.cells #[.int .i64 0, .int .i64 0, .int .i64 0, .int .i64 0, .int .u32 0] 40 (0, 0))) ∧ Aside0 (wc.heap[gb206]? = some (.cells #[.int .i64 0, .int .i64 0, .int .i64 0, .int .i64 0, .int .u32 0] 40 (0, 0))) ∧ Aside0 (Below w.heap.size w wc))
 case first =>
  have H := HC6.out
  clear HC6
  by_cases c15 : a0_0 = 0
  ·rw [if_pos c15] at H
   have c15b0 : (a0_0 == 0) = true := beq_iff_eq.mpr c15
   have c15b1 : (a0_0 != 0) = false := bne_eq_false_iff_eq.mpr c15
   clear c15
   (first | rw [c15b0] | (simp only [i64_w, i32_w]; rw [c15b0]) | skip)
   have H' := Aside0.mk H
   clear H
   have hnb16 := NB203_204.out
   have hnc16 := NB204_203.out
   have hnb17 := NB203_205.out
   have hnc17 := NB205_203.out
   have hnb18 := NB203_206.out
   have hnc18 := NB206_203.out
   have hcz19_0 : w10.cell? ⟨gb203, 0, none⟩ = some (.int .i64 a0_0) := (blk_cell BK203.out 0).trans rfl
   have hcz19_1 : w10.cell? ⟨gb203, 1, none⟩ = some (.int .i64 a0_1) := (blk_cell BK203.out 1).trans rfl
   have hcz19_2 : w10.cell? ⟨gb203, 2, none⟩ = some (.int .i64 a0_2) := (blk_cell BK203.out 2).trans rfl
   have hcz19_3 : w10.cell? ⟨gb203, 3, none⟩ = some (.int .i64 a0_3) := (blk_cell BK203.out 3).trans rfl
   have hcz19_4 : w10.cell? ⟨gb203, 4, none⟩ = some (.int .u32 a0_4) := (blk_cell BK203.out 4).trans rfl
   have hfz19_0 := blk_frozen BK203.out 0
   have hfz19_1 := blk_frozen BK203.out 1
   have hfz19_2 := blk_frozen BK203.out 2
   have hfz19_3 := blk_frozen BK203.out 3
   have hfz19_4 := blk_frozen BK203.out 4
   go_wp2
   go_meet
   case rel => exact ⟨_, ((a1 != 3)), (by first | rfl | (simp; done) | (simp [*]; done)), H', ⟨by first | omega | exact Nat.le_refl _⟩, ⟨by (with_reducible repeat (first | apply blk_drewN | apply blk_drew | apply blk_alloc)); exact BK203.out⟩, ⟨by (with_reducible repeat (first | apply blk_drewN | apply blk_drew | apply blk_alloc)); exact BK204.out⟩, ⟨by (with_reducible repeat (first | apply blk_drewN | apply blk_drew | apply blk_alloc)); exact BK205.out⟩, ⟨by (with_reducible repeat (first | apply blk_drewN | apply blk_drew | apply blk_alloc)); exact BK206.out⟩, ⟨by repeat (first | (with_reducible first | exact HB.out | apply below_alloc | apply pw_below_drewN | apply below_drew1 | refine below_set ?_ GE203.out | refine below_set ?_ GE204.out | refine below_set ?_ GE205.out | refine below_set ?_ GE206.out) | exact HB.out)⟩⟩
  ·rw [if_neg c15] at H
   have c15b0 : (a0_0 == 0) = false := beq_eq_false_iff_ne.mpr c15
   have c15b1 : (a0_0 != 0) = true := bne_iff_ne.mpr c15
   (first | rw [c15b0] | (simp only [i64_w, i32_w]; rw [c15b0]) | skip)
   have H' := Aside0.mk H
   clear H
   have hnb20 := NB203_204.out
   have hnc20 := NB204_203.out
   have hnb21 := NB203_205.out
   have hnc21 := NB205_203.out
   have hnb22 := NB203_206.out
   have hnc22 := NB206_203.out
   have hcz23_0 : w10.cell? ⟨gb203, 0, none⟩ = some (.int .i64 a0_0) := (blk_cell BK203.out 0).trans rfl
   have hcz23_1 : w10.cell? ⟨gb203, 1, none⟩ = some (.int .i64 a0_1) := (blk_cell BK203.out 1).trans rfl
   have hcz23_2 : w10.cell? ⟨gb203, 2, none⟩ = some (.int .i64 a0_2) := (blk_cell BK203.out 2).trans rfl
   have hcz23_3 : w10.cell? ⟨gb203, 3, none⟩ = some (.int .i64 a0_3) := (blk_cell BK203.out 3).trans rfl
   have hcz23_4 : w10.cell? ⟨gb203, 4, none⟩ = some (.int .u32 a0_4) := (blk_cell BK203.out 4).trans rfl
   have hfz23_0 := blk_frozen BK203.out 0
   have hfz23_1 := blk_frozen BK203.out 1
   have hfz23_2 := blk_frozen BK203.out 2
   have hfz23_3 := blk_frozen BK203.out 3
   have hfz23_4 := blk_frozen BK203.out 4
   go_wp2
   go_meet
   case rel => exact ⟨_, (false), (by first | rfl | (simp; done) | (simp [*]; done)), H', ⟨by first | omega | exact Nat.le_refl _⟩, ⟨by (with_reducible repeat (first | apply blk_drewN | apply blk_drew | apply blk_alloc)); exact BK203.out⟩, ⟨by (with_reducible repeat (first | apply blk_drewN | apply blk_drew | apply blk_alloc)); exact BK204.out⟩, ⟨by (with_reducible repeat (first | apply blk_drewN | apply blk_drew | apply blk_alloc)); exact BK205.out⟩, ⟨by (with_reducible repeat (first | apply blk_drewN | apply blk_drew | apply blk_alloc)); exact BK206.out⟩, ⟨by repeat (first | (with_reducible first | exact HB.out | apply below_alloc | apply pw_below_drewN | apply below_drew1 | refine below_set ?_ GE203.out | refine below_set ?_ GE204.out | refine below_set ?_ GE205.out | refine below_set ?_ GE206.out) | exact HB.out)⟩⟩
 case rest =>
  clear HC6
  (try clear c1); (try clear c2); (try clear p2); (try clear c3); (try clear c11); (try clear c12); (try clear c13); (try clear c15); (try clear c15b0); (try clear c15b1); (try clear c16); (try clear c17); (try clear c18); (try clear c20); (try clear c21); (try clear c22); (try clear c23); (try clear hcz14_0); (try clear hcz14_1); (try clear hcz14_2); (try clear hcz14_3); (try clear hcz14_4); (try clear hcz19_0); (try clear hcz19_1); (try clear hcz19_2); (try clear hcz19_3); (try clear hcz19_4); (try clear hcz23_0); (try clear hcz23_1); (try clear hcz23_2); (try clear hcz23_3); (try clear hcz23_4); (try clear hfz14_0); (try clear hfz14_1); (try clear hfz14_2); (try clear hfz14_3); (try clear hfz14_4); (try clear hfz19_0); (try clear hfz19_1); (try clear hfz19_2); (try clear hfz19_3); (try clear hfz19_4); (try clear hfz23_0); (try clear hfz23_1); (try clear hfz23_2); (try clear hfz23_3); (try clear hfz23_4)
  obtain ⟨kq, x13_5, rfl, HA, HJ5, BK203, BK204, BK205, BK206, HB⟩ := hcut
  cases kq with
  | zero => exact absurd HA.out (by simp [perm_Split.j0])
  | succ kj5 =>
   have H := HA.out
   clear HA
   simp only [perm_Split.j0] at H
   have HC24 := Aside0.mk H
   clear H
   go_upto_region 3 with (fail)
   go_cut [61] (fun v61 wc => ∃ (kq : Nat) (x61_23 : Bool), v61 = .bool x61_23 ∧ Aside0 (perm_Split.j1 kq a1 a3 t207 x13_5 x61_23 a0_0 a0_1 a0_2 a0_3 a0_4 a2_0 a2_1 = some (r1, r2, r3, r4, r5, r6, r7, r8, r9, r10, r11)) ∧ Aside0 (kq ≤ kj5) ∧ Aside0 (wc.heap[gb203]? = some (.cells #[.int .i64 a0_0, .int .i64 a0_1, .int .i64 a0_2, .int .i64 a0_3, .int .u32 a0_4] 40 (0, 0))) ∧ Aside0 (wc.heap[gb204]? = some (.cells #[.int .i64 a2_0, .int .i64 a2_1] 23 (0, 0))) ∧ Aside0 (wc.heap[gb205]? = some (.cells #[.int .i64 0, .int .i64 0, .int .i64 0, .int .i64 0, .int .u32 0] 40 (0, 0))) ∧ Aside0 (wc.heap[gb206]? = some (.cells #[.int .i64 0, .int .i64 0, .int .i64 0, .int .i64 0, .int .u32 0] 40 (0, 0))) ∧ Aside0 (Below w.heap.size w wc))
   case first =>
    have H := HC24.out
    clear HC24
    by_cases c25 : t208 = true
    ·subst c25
     have H1 : ((rat_Right.f kj5 a0_1 a0_2).bind fun t209 => (if t209 = true then ((rat_Right.f kj5 a2_0 a2_1).bind fun t210 => (if t210 = true then (if a2_0 ≤ 0 then (perm_Split.j1 kj5 a1 a3 t207 x13_5 true a0_0 a0_1 a0_2 a0_3 a0_4 a2_0 a2_1) else (if a2_0 ≥ a2_1 then (perm_Split.j1 kj5 a1 a3 t207 x13_5 true a0_0 a0_1 a0_2 a0_3 a0_4 a2_0 a2_1) else (perm_Split.j1 kj5 a1 a3 t207 x13_5 (x13_5 != (a3 != 0)) a0_0 a0_1 a0_2 a0_3 a0_4 a2_0 a2_1))) else (perm_Split.j1 kj5 a1 a3 t207 x13_5 true a0_0 a0_1 a0_2 a0_3 a0_4 a2_0 a2_1))) else (perm_Split.j1 kj5 a1 a3 t207 x13_5 true a0_0 a0_1 a0_2 a0_3 a0_4 a2_0 a2_1))) = some (r1, r2, r3, r4, r5, r6, r7, r8, r9, r10, r11) := by rw [if_pos rfl] at H; exact H
     clear H
     have H := H1
     clear H1
     replace H := Option.bind_eq_some_iff.mp H
     obtain ⟨t209, A260, H⟩ := H
     replace H : (if t209 = true then ((rat_Right.f kj5 a2_0 a2_1).bind fun t210 => (if t210 = true then (if a2_0 ≤ 0 then (perm_Split.j1 kj5 a1 a3 t207 x13_5 true a0_0 a0_1 a0_2 a0_3 a0_4 a2_0 a2_1) else (if a2_0 ≥ a2_1 then (perm_Split.j1 kj5 a1 a3 t207 x13_5 true a0_0 a0_1 a0_2 a0_3 a0_4 a2_0 a2_1) else (perm_Split.j1 kj5 a1 a3 t207 x13_5 (x13_5 != (a3 != 0)) a0_0 a0_1 a0_2 a0_3 a0_4 a2_0 a2_1))) else (perm_Split.j1 kj5 a1 a3 t207 x13_5 true a0_0 a0_1 a0_2 a0_3 a0_4 a2_0 a2_1))) else (perm_Split.j1 kj5 a1 a3 t207 x13_5 true a0_0 a0_1 a0_2 a0_3 a0_4 a2_0 a2_1)) = some (r1, r2, r3, r4, r5, r6, r7, r8, r9, r10, r11) := H
     have A26 := Aside0.mk A260
     clear A260
     by_cases c27 : t209 = true
     ·subst c27
      have H1 : ((rat_Right.f kj5 a2_0 a2_1).bind fun t210 => (if t210 = true then (if a2_0 ≤ 0 then (perm_Split.j1 kj5 a1 a3 t207 x13_5 true a0_0 a0_1 a0_2 a0_3 a0_4 a2_0 a2_1) else (if a2_0 ≥ a2_1 then (perm_Split.j1 kj5 a1 a3 t207 x13_5 true a0_0 a0_1 a0_2 a0_3 a0_4 a2_0 a2_1) else (perm_Split.j1 kj5 a1 a3 t207 x13_5 (x13_5 != (a3 != 0)) a0_0 a0_1 a0_2 a0_3 a0_4 a2_0 a2_1))) else (perm_Split.j1 kj5 a1 a3 t207 x13_5 true a0_0 a0_1 a0_2 a0_3 a0_4 a2_0 a2_1))) = some (r1, r2, r3, r4, r5, r6, r7, r8, r9, r10, r11) := by rw [if_pos rfl] at H; exact H
      clear H
      have H := H1
      clear H1
      replace H := Option.bind_eq_some_iff.mp H
      obtain ⟨t210, A280, H⟩ := H
      replace H : (if t210 = true then (if a2_0 ≤ 0 then (perm_Split.j1 kj5 a1 a3 t207 x13_5 true a0_0 a0_1 a0_2 a0_3 a0_4 a2_0 a2_1) else (if a2_0 ≥ a2_1 then (perm_Split.j1 kj5 a1 a3 t207 x13_5 true a0_0 a0_1 a0_2 a0_3 a0_4 a2_0 a2_1) else (perm_Split.j1 kj5 a1 a3 t207 x13_5 (x13_5 != (a3 != 0)) a0_0 a0_1 a0_2 a0_3 a0_4 a2_0 a2_1))) else (perm_Split.j1 kj5 a1 a3 t207 x13_5 true a0_0 a0_1 a0_2 a0_3 a0_4 a2_0 a2_1)) = some (r1, r2, r3, r4, r5, r6, r7, r8, r9, r10, r11) := H
      have A28 := Aside0.mk A280
      clear A280
      by_cases c29 : t210 = true
      ·subst c29
       have H1 : (if a2_0 ≤ 0 then (perm_Split.j1 kj5 a1 a3 t207 x13_5 true a0_0 a0_1 a0_2 a0_3 a0_4 a2_0 a2_1) else (if a2_0 ≥ a2_1 then (perm_Split.j1 kj5 a1 a3 t207 x13_5 true a0_0 a0_1 a0_2 a0_3 a0_4 a2_0 a2_1) else (perm_Split.j1 kj5 a1 a3 t207 x13_5 (x13_5 != (a3 != 0)) a0_0 a0_1 a0_2 a0_3 a0_4 a2_0 a2_1))) = some (r1, r2, r3, r4, r5, r6, r7, r8, r9, r10, r11) := by rw [if_pos rfl] at H; exact H
       clear H
       have H := H1
       clear H1
       by_cases c30 : a2_0 ≤ 0
       ·rw [if_pos c30] at H
        have c30b0 : decide (a2_0 ≤ 0) = true := decide_eq_true c30
        clear c30
        (first | rw [c30b0] | (simp only [i64_w, i32_w]; rw [c30b0]) | skip)
        have H' := Aside0.mk H
        clear H
        have hnb31 := NB203_204.out
        have hnc31 := NB204_203.out
        have hnb32 := NB203_205.out
        have hnc32 := NB205_203.out
        have hnb33 := NB203_206.out
        have hnc33 := NB206_203.out
        have hcz34_0 : wc.cell? ⟨gb203, 0, none⟩ = some (.int .i64 a0_0) := (blk_cell BK203.out 0).trans rfl
        have hcz34_1 : wc.cell? ⟨gb203, 1, none⟩ = some (.int .i64 a0_1) := (blk_cell BK203.out 1).trans rfl
        have hcz34_2 : wc.cell? ⟨gb203, 2, none⟩ = some (.int .i64 a0_2) := (blk_cell BK203.out 2).trans rfl
        have hcz34_3 : wc.cell? ⟨gb203, 3, none⟩ = some (.int .i64 a0_3) := (blk_cell BK203.out 3).trans rfl
        have hcz34_4 : wc.cell? ⟨gb203, 4, none⟩ = some (.int .u32 a0_4) := (blk_cell BK203.out 4).trans rfl
        have hfz34_0 := blk_frozen BK203.out 0
        have hfz34_1 := blk_frozen BK203.out 1
        have hfz34_2 := blk_frozen BK203.out 2
        have hfz34_3 := blk_frozen BK203.out 3
        have hfz34_4 := blk_frozen BK203.out 4
        go_wp2_with (first | (go_at_call 12; (with_reducible refine (rat_Right.calls kj5 a0_1 a0_2 true _ A26.out).mono ?_); rintro e w35 ⟨rfl, hb⟩; have n0_ := Aside0.mk (blk_below (g := gb203) (o := .cells #[.int .i64 a0_0, .int .i64 a0_1, .int .i64 a0_2, .int .i64 a0_3, .int .u32 a0_4] 40 (0, 0)) (by (with_reducible repeat (first | apply blk_drewN | apply blk_drew | apply blk_alloc)); exact BK203.out) hb); have n1_ := Aside0.mk (blk_below (g := gb204) (o := .cells #[.int .i64 a2_0, .int .i64 a2_1] 23 (0, 0)) (by (with_reducible repeat (first | apply blk_drewN | apply blk_drew | apply blk_alloc)); exact BK204.out) hb); have n2_ := Aside0.mk (blk_below (g := gb205) (o := .cells #[.int .i64 0, .int .i64 0, .int .i64 0, .int .i64 0, .int .u32 0] 40 (0, 0)) (by (with_reducible repeat (first | apply blk_drewN | apply blk_drew | apply blk_alloc)); exact BK205.out) hb); have n3_ := Aside0.mk (blk_below (g := gb206) (o := .cells #[.int .i64 0, .int .i64 0, .int .i64 0, .int .i64 0, .int .u32 0] 40 (0, 0)) (by (with_reducible repeat (first | apply blk_drewN | apply blk_drew | apply blk_alloc)); exact BK206.out) hb); have n4_ := Aside0.mk (below_step (by repeat (first | (with_reducible first | exact HB.out | apply below_alloc | apply pw_below_drewN | apply below_drew1 | refine below_set ?_ GE203.out | refine below_set ?_ GE204.out | refine below_set ?_ GE205.out | refine below_set ?_ GE206.out) | exact HB.out)) hb); clear BK203; clear BK204; clear BK205; clear BK206; clear HB; have BK203 := n0_; have BK204 := n1_; have BK205 := n2_; have BK206 := n3_; have HB := n4_; clear n0_ n1_ n2_ n3_ n4_; (try clear hb); (try clear hb2); (try clear hk); (try clear hi); have hnb36 := NB204_205.out; have hnc36 := NB205_204.out; have hnb37 := NB204_206.out; have hnc37 := NB206_204.out; have hcz38_0 : w35.cell? ⟨gb204, 0, none⟩ = some (.int .i64 a2_0) := (blk_cell BK204.out 0).trans rfl; have hcz38_1 : w35.cell? ⟨gb204, 1, none⟩ = some (.int .i64 a2_1) := (blk_cell BK204.out 1).trans rfl; have hfz38_0 := blk_frozen BK204.out 0; have hfz38_1 := blk_frozen BK204.out 1) | (go_at_call 12; (with_reducible refine (rat_Right.calls kj5 a2_0 a2_1 true _ A28.out).mono ?_); rintro e w39 ⟨rfl, hb⟩; have n0_ := Aside0.mk (blk_below (g := gb203) (o := .cells #[.int .i64 a0_0, .int .i64 a0_1, .int .i64 a0_2, .int .i64 a0_3, .int .u32 a0_4] 40 (0, 0)) (by (with_reducible repeat (first | apply blk_drewN | apply blk_drew | apply blk_alloc)); exact BK203.out) hb); have n1_ := Aside0.mk (blk_below (g := gb204) (o := .cells #[.int .i64 a2_0, .int .i64 a2_1] 23 (0, 0)) (by (with_reducible repeat (first | apply blk_drewN | apply blk_drew | apply blk_alloc)); exact BK204.out) hb); have n2_ := Aside0.mk (blk_below (g := gb205) (o := .cells #[.int .i64 0, .int .i64 0, .int .i64 0, .int .i64 0, .int .u32 0] 40 (0, 0)) (by (with_reducible repeat (first | apply blk_drewN | apply blk_drew | apply blk_alloc)); exact BK205.out) hb); have n3_ := Aside0.mk (blk_below (g := gb206) (o := .cells #[.int .i64 0, .int .i64 0, .int .i64 0, .int .i64 0, .int .u32 0] 40 (0, 0)) (by (with_reducible repeat (first | apply blk_drewN | apply blk_drew | apply blk_alloc)); exact BK206.out) hb); have n4_ := Aside0.mk (below_step (by repeat (first | (with_reducible first | exact HB.out | apply below_alloc | apply pw_below_drewN | apply below_drew1 | refine below_set ?_ GE203.out | refine below_set ?_ GE204.out | refine below_set ?_ GE205.out | refine below_set ?_ GE206.out) | exact HB.out)) hb); clear BK203; clear BK204; clear BK205; clear BK206; clear HB; have BK203 := n0_; have BK204 := n1_; have BK205 := n2_; have BK206 := n3_; have HB := n4_; clear n0_ n1_ n2_ n3_ n4_; (try clear hb); (try clear hb2); (try clear hk); (try clear hi); have hcz40_0 : w39.cell? ⟨gb204, 0, none⟩ = some (.int .i64 a2_0) := (blk_cell BK204.out 0).trans rfl; have hcz40_1 : w39.cell? ⟨gb204, 1, none⟩ = some (.int .i64 a2_1) := (blk_cell BK204.out 1).trans rfl; have hfz40_0 := blk_frozen BK204.out 0; have hfz40_1 := blk_frozen BK204.out 1))
        go_meet
        case rel => exact ⟨_, (true), (by first | rfl | (simp; done) | (simp [*]; done)), H', ⟨by have := HJ5.out; first | omega | exact Nat.le_refl _⟩, ⟨by (with_reducible repeat (first | apply blk_drewN | apply blk_drew | apply blk_alloc)); exact BK203.out⟩, ⟨by (with_reducible repeat (first | apply blk_drewN | apply blk_drew | apply blk_alloc)); exact BK204.out⟩, ⟨by (with_reducible repeat (first | apply blk_drewN | apply blk_drew | apply blk_alloc)); exact BK205.out⟩, ⟨by (with_reducible repeat (first | apply blk_drewN | apply blk_drew | apply blk_alloc)); exact BK206.out⟩, ⟨by repeat (first | (with_reducible first | exact HB.out | apply below_alloc | apply pw_below_drewN | apply below_drew1 | refine below_set ?_ GE203.out | refine below_set ?_ GE204.out | refine below_set ?_ GE205.out | refine below_set ?_ GE206.out) | exact HB.out)⟩⟩
       ·rw [if_neg c30] at H
        have c30b0 : decide (a2_0 ≤ 0) = false := decide_eq_false c30
        clear c30
        (first | rw [c30b0] | (simp only [i64_w, i32_w]; rw [c30b0]) | skip)
        by_cases c41 : a2_0 ≥ a2_1
        ·rw [if_pos c41] at H
         have c41b0 : decide (a2_1 ≤ a2_0) = true := decide_eq_true c41
         clear c41
         have H' := Aside0.mk H
         clear H
         have hnb42 := NB203_204.out
         have hnc42 := NB204_203.out
         have hnb43 := NB203_205.out
         have hnc43 := NB205_203.out
         have hnb44 := NB203_206.out
         have hnc44 := NB206_203.out
         have hcz45_0 : wc.cell? ⟨gb203, 0, none⟩ = some (.int .i64 a0_0) := (blk_cell BK203.out 0).trans rfl
         have hcz45_1 : wc.cell? ⟨gb203, 1, none⟩ = some (.int .i64 a0_1) := (blk_cell BK203.out 1).trans rfl
         have hcz45_2 : wc.cell? ⟨gb203, 2, none⟩ = some (.int .i64 a0_2) := (blk_cell BK203.out 2).trans rfl
         have hcz45_3 : wc.cell? ⟨gb203, 3, none⟩ = some (.int .i64 a0_3) := (blk_cell BK203.out 3).trans rfl
         have hcz45_4 : wc.cell? ⟨gb203, 4, none⟩ = some (.int .u32 a0_4) := (blk_cell BK203.out 4).trans rfl
         have hfz45_0 := blk_frozen BK203.out 0
         have hfz45_1 := blk_frozen BK203.out 1
         have hfz45_2 := blk_frozen BK203.out 2
         have hfz45_3 := blk_frozen BK203.out 3
         have hfz45_4 := blk_frozen BK203.out 4
         go_wp2_with (first | (go_at_call 12; (with_reducible refine (rat_Right.calls kj5 a0_1 a0_2 true _ A26.out).mono ?_); rintro e w46 ⟨rfl, hb⟩; have n0_ := Aside0.mk (blk_below (g := gb203) (o := .cells #[.int .i64 a0_0, .int .i64 a0_1, .int .i64 a0_2, .int .i64 a0_3, .int .u32 a0_4] 40 (0, 0)) (by (with_reducible repeat (first | apply blk_drewN | apply blk_drew | apply blk_alloc)); exact BK203.out) hb); have n1_ := Aside0.mk (blk_below (g := gb204) (o := .cells #[.int .i64 a2_0, .int .i64 a2_1] 23 (0, 0)) (by (with_reducible repeat (first | apply blk_drewN | apply blk_drew | apply blk_alloc)); exact BK204.out) hb); have n2_ := Aside0.mk (blk_below (g := gb205) (o := .cells #[.int .i64 0, .int .i64 0, .int .i64 0, .int .i64 0, .int .u32 0] 40 (0, 0)) (by (with_reducible repeat (first | apply blk_drewN | apply blk_drew | apply blk_alloc)); exact BK205.out) hb); have n3_ := Aside0.mk (blk_below (g := gb206) (o := .cells #[.int .i64 0, .int .i64 0, .int .i64 0, .int .i64 0, .int .u32 0] 40 (0, 0)) (by (with_reducible repeat (first | apply blk_drewN | apply blk_drew | apply blk_alloc)); exact BK206.out) hb); have n4_ := Aside0.mk (below_step (by repeat (first | (with_reducible first | exact HB.out | apply below_alloc | apply pw_below_drewN | apply below_drew1 | refine below_set ?_ GE203.out | refine below_set ?_ GE204.out | refine below_set ?_ GE205.out | refine below_set ?_ GE206.out) | exact HB.out)) hb); clear BK203; clear BK204; clear BK205; clear BK206; clear HB; have BK203 := n0_; have BK204 := n1_; have BK205 := n2_; have BK206 := n3_; have HB := n4_; clear n0_ n1_ n2_ n3_ n4_; (try clear hb); (try clear hb2); (try clear hk); (try clear hi); have hnb47 := NB204_205.out; have hnc47 := NB205_204.out; have hnb48 := NB204_206.out; have hnc48 := NB206_204.out; have hcz49_0 : w46.cell? ⟨gb204, 0, none⟩ = some (.int .i64 a2_0) := (blk_cell BK204.out 0).trans rfl; have hcz49_1 : w46.cell? ⟨gb204, 1, none⟩ = some (.int .i64 a2_1) := (blk_cell BK204.out 1).trans rfl; have hfz49_0 := blk_frozen BK204.out 0; have hfz49_1 := blk_frozen BK204.out 1) | (go_at_call 12; (with_reducible refine (rat_Right.calls kj5 a2_0 a2_1 true _ A28.out).mono ?_); rintro e w50 ⟨rfl, hb⟩; have n0_ := Aside0.mk (blk_below (g := gb203) (o := .cells #[.int .i64 a0_0, .int .i64 a0_1, .int .i64 a0_2, .int .i64 a0_3, .int .u32 a0_4] 40 (0, 0)) (by (with_reducible repeat (first | apply blk_drewN | apply blk_drew | apply blk_alloc)); exact BK203.out) hb); have n1_ := Aside0.mk (blk_below (g := gb204) (o := .cells #[.int .i64 a2_0, .int .i64 a2_1] 23 (0, 0)) (by (with_reducible repeat (first | apply blk_drewN | apply blk_drew | apply blk_alloc)); exact BK204.out) hb); have n2_ := Aside0.mk (blk_below (g := gb205) (o := .cells #[.int .i64 0, .int .i64 0, .int .i64 0, .int .i64 0, .int .u32 0] 40 (0, 0)) (by (with_reducible repeat (first | apply blk_drewN | apply blk_drew | apply blk_alloc)); exact BK205.out) hb); have n3_ := Aside0.mk (blk_below (g := gb206) (o := .cells #[.int .i64 0, .int .i64 0, .int .i64 0, .int .i64 0, .int .u32 0] 40 (0, 0)) (by (with_reducible repeat (first | apply blk_drewN | apply blk_drew | apply blk_alloc)); exact BK206.out) hb); have n4_ := Aside0.mk (below_step (by repeat (first | (with_reducible first | exact HB.out | apply below_alloc | apply pw_below_drewN | apply below_drew1 | refine below_set ?_ GE203.out | refine below_set ?_ GE204.out | refine below_set ?_ GE205.out | refine below_set ?_ GE206.out) | exact HB.out)) hb); clear BK203; clear BK204; clear BK205; clear BK206; clear HB; have BK203 := n0_; have BK204 := n1_; have BK205 := n2_; have BK206 := n3_; have HB := n4_; clear n0_ n1_ n2_ n3_ n4_; (try clear hb); (try clear hb2); (try clear hk); (try clear hi); have hcz51_0 : w50.cell? ⟨gb204, 0, none⟩ = some (.int .i64 a2_0) := (blk_cell BK204.out 0).trans rfl; have hcz51_1 : w50.cell? ⟨gb204, 1, none⟩ = some (.int .i64 a2_1) := (blk_cell BK204.out 1).trans rfl; have hfz51_0 := blk_frozen BK204.out 0; have hfz51_1 := blk_frozen BK204.out 1))
         go_meet
         case rel => exact ⟨_, (true), (by first | rfl | (simp; done) | (simp [*]; done)), H', ⟨by have := HJ5.out; first | omega | exact Nat.le_refl _⟩, ⟨by (with_reducible repeat (first | apply blk_drewN | apply blk_drew | apply blk_alloc)); exact BK203.out⟩, ⟨by (with_reducible repeat (first | apply blk_drewN | apply blk_drew | apply blk_alloc)); exact BK204.out⟩, ⟨by (with_reducible repeat (first | apply blk_drewN | apply blk_drew | apply blk_alloc)); exact BK205.out⟩, ⟨by (with_reducible repeat (first | apply blk_drewN | apply blk_drew | apply blk_alloc)); exact BK206.out⟩, ⟨by repeat (first | (with_reducible first | exact HB.out | apply below_alloc | apply pw_below_drewN | apply below_drew1 | refine below_set ?_ GE203.out | refine below_set ?_ GE204.out | refine below_set ?_ GE205.out | refine below_set ?_ GE206.out) | exact HB.out)⟩⟩
        ·rw [if_neg c41] at H
         have c41b0 : decide (a2_1 ≤ a2_0) = false := decide_eq_false c41
         clear c41
         have H' := Aside0.mk H
         clear H
         have hnb52 := NB203_204.out
         have hnc52 := NB204_203.out
         have hnb53 := NB203_205.out
         have hnc53 := NB205_203.out
         have hnb54 := NB203_206.out
         have hnc54 := NB206_203.out
         have hcz55_0 : wc.cell? ⟨gb203, 0, none⟩ = some (.int .i64 a0_0) := (blk_cell BK203.out 0).trans rfl
         have hcz55_1 : wc.cell? ⟨gb203, 1, none⟩ = some (.int .i64 a0_1) := (blk_cell BK203.out 1).trans rfl
         have hcz55_2 : wc.cell? ⟨gb203, 2, none⟩ = some (.int .i64 a0_2) := (blk_cell BK203.out 2).trans rfl
         have hcz55_3 : wc.cell? ⟨gb203, 3, none⟩ = some (.int .i64 a0_3) := (blk_cell BK203.out 3).trans rfl
         have hcz55_4 : wc.cell? ⟨gb203, 4, none⟩ = some (.int .u32 a0_4) := (blk_cell BK203.out 4).trans rfl
         have hfz55_0 := blk_frozen BK203.out 0
         have hfz55_1 := blk_frozen BK203.out 1
         have hfz55_2 := blk_frozen BK203.out 2
         have hfz55_3 := blk_frozen BK203.out 3
         have hfz55_4 := blk_frozen BK203.out 4
         go_wp2_with (first | (go_at_call 12; (with_reducible refine (rat_Right.calls kj5 a0_1 a0_2 true _ A26.out).mono ?_); rintro e w56 ⟨rfl, hb⟩; have n0_ := Aside0.mk (blk_below (g := gb203) (o := .cells #[.int .i64 a0_0, .int .i64 a0_1, .int .i64 a0_2, .int .i64 a0_3, .int .u32 a0_4] 40 (0, 0)) (by (with_reducible repeat (first | apply blk_drewN | apply blk_drew | apply blk_alloc)); exact BK203.out) hb); have n1_ := Aside0.mk (blk_below (g := gb204) (o := .cells #[.int .i64 a2_0, .int .i64 a2_1] 23 (0, 0)) (by (with_reducible repeat (first | apply blk_drewN | apply blk_drew | apply blk_alloc)); exact BK204.out) hb); have n2_ := Aside0.mk (blk_below (g := gb205) (o := .cells #[.int .i64 0, .int .i64 0, .int .i64 0, .int .i64 0, .int .u32 0] 40 (0, 0)) (by (with_reducible repeat (first | apply blk_drewN | apply blk_drew | apply blk_alloc)); exact BK205.out) hb); have n3_ := Aside0.mk (blk_below (g := gb206) (o := .cells #[.int .i64 0, .int .i64 0, .int .i64 0, .int .i64 0, .int .u32 0] 40 (0, 0)) (by (with_reducible repeat (first | apply blk_drewN | apply blk_drew | apply blk_alloc)); exact BK206.out) hb); have n4_ := Aside0.mk (below_step (by repeat (first | (with_reducible first | exact HB.out | apply below_alloc | apply pw_below_drewN | apply below_drew1 | refine below_set ?_ GE203.out | refine below_set ?_ GE204.out | refine below_set ?_ GE205.out | refine below_set ?_ GE206.out) | exact HB.out)) hb); clear BK203; clear BK204; clear BK205; clear BK206; clear HB; have BK203 := n0_; have BK204 := n1_; have BK205 := n2_; have BK206 := n3_; have HB := n4_; clear n0_ n1_ n2_ n3_ n4_; (try clear hb); (try clear hb2); (try clear hk); (try clear hi); have hnb57 := NB204_205.out; have hnc57 := NB205_204.out; have hnb58 := NB204_206.out; have hnc58 := NB206_204.out; have hcz59_0 : w56.cell? ⟨gb204, 0, none⟩ = some (.int .i64 a2_0) := (blk_cell BK204.out 0).trans rfl; have hcz59_1 : w56.cell? ⟨gb204, 1, none⟩ = some (.int .i64 a2_1) := (blk_cell BK204.out 1).trans rfl; have hfz59_0 := blk_frozen BK204.out 0; have hfz59_1 := blk_frozen BK204.out 1) | (go_at_call 12; (with_reducible refine (rat_Right.calls kj5 a2_0 a2_1 true _ A28.out).mono ?_); rintro e w60 ⟨rfl, hb⟩; have n0_ := Aside0.mk (blk_below (g := gb203) (o := .cells #[.int .i64 a0_0, .int .i64 a0_1, .int .i64 a0_2, .int .i64 a0_3, .int .u32 a0_4] 40 (0, 0)) (by (with_reducible repeat (first | apply blk_drewN | apply blk_drew | apply blk_alloc)); exact BK203.out) hb); have n1_ := Aside0.mk (blk_below (g := gb204) (o := .cells #[.int .i64 a2_0, .int .i64 a2_1] 23 (0, 0)) (by (with_reducible repeat (first | apply blk_drewN | apply blk_drew | apply blk_alloc)); exact BK204.out) hb); have n2_ := Aside0.mk (blk_below (g := gb205) (o := .cells #[.int .i64 0, .int .i64 0, .int .i64 0, .int .i64 0, .int .u32 0] 40 (0, 0)) (by (with_reducible repeat (first | apply blk_drewN | apply blk_drew | apply blk_alloc)); exact BK205.out) hb); have n3_ := Aside0.mk (blk_below (g := gb206) (o := .cells #[.int .i64 0, .int .i64 0, .int .i64 0, .int .i64 0, .int .u32 0] 40 (0, 0)) (by (with_reducible repeat (first | apply blk_drewN | apply blk_drew | apply blk_alloc)); exact BK206.out) hb); have n4_ := Aside0.mk (below_step (by repeat (first | (with_reducible first | exact HB.out | apply below_alloc | apply pw_below_drewN | apply below_drew1 | refine below_set ?_ GE203.out | refine below_set ?_ GE204.out | refine below_set ?_ GE205.out | refine below_set ?_ GE206.out) | exact HB.out)) hb); clear BK203; clear BK204; clear BK205; clear BK206; clear HB; have BK203 := n0_; have BK204 := n1_; have BK205 := n2_; have BK206 := n3_; have HB := n4_; clear n0_ n1_ n2_ n3_ n4_; (try clear hb); (try clear hb2); (try clear hk); (try clear hi); have hcz61_0 : w60.cell? ⟨gb204, 0, none⟩ = some (.int .i64 a2_0) := (blk_cell BK204.out 0).trans rfl; have hcz61_1 : w60.cell? ⟨gb204, 1, none⟩ = some (.int .i64 a2_1) := (blk_cell BK204.out 1).trans rfl; have hfz61_0 := blk_frozen BK204.out 0; have hfz61_1 := blk_frozen BK204.out 1))
         go_meet
         case rel => exact ⟨_, ((x13_5 != (a3 != 0))), (by first | rfl | (simp; done) | (simp [*]; done)), H', ⟨by have := HJ5.out; first | omega | exact Nat.le_refl _⟩, ⟨by (with_reducible repeat (first | apply blk_drewN | apply blk_drew | apply blk_alloc)); exact BK203.out⟩, ⟨by (with_reducible repeat (first | apply blk_drewN | apply blk_drew | apply blk_alloc)); exact BK204.out⟩, ⟨by (with_reducible repeat (first | apply blk_drewN | apply blk_drew | apply blk_alloc)); exact BK205.out⟩, ⟨by (with_reducible repeat (first | apply blk_drewN | apply blk_drew | apply blk_alloc)); exact BK206.out⟩, ⟨by repeat (first | (with_reducible first | exact HB.out | apply below_alloc | apply pw_below_drewN | apply below_drew1 | refine below_set ?_ GE203.out | refine below_set ?_ GE204.out | refine below_set ?_ GE205.out | refine below_set ?_ GE206.out) | exact HB.out)⟩⟩
      ·replace c29 := Bool.eq_false_iff.mpr c29
       subst c29
       have H1 : (perm_Split.j1 kj5 a1 a3 t207 x13_5 true a0_0 a0_1 a0_2 a0_3 a0_4 a2_0 a2_1) = some (r1, r2, r3, r4, r5, r6, r7, r8, r9, r10, r11) := by rw [if_neg (show ¬ (false = true) by decide)] at H; exact H
       clear H
       have H := H1
       clear H1
       have H' := Aside0.mk H
       clear H
       have hnb62 := NB203_204.out
       have hnc62 := NB204_203.out
       have hnb63 := NB203_205.out
       have hnc63 := NB205_203.out
       have hnb64 := NB203_206.out
       have hnc64 := NB206_203.out
       have hcz65_0 : wc.cell? ⟨gb203, 0, none⟩ = some (.int .i64 a0_0) := (blk_cell BK203.out 0).trans rfl
       have hcz65_1 : wc.cell? ⟨gb203, 1, none⟩ = some (.int .i64 a0_1) := (blk_cell BK203.out 1).trans rfl
       have hcz65_2 : wc.cell? ⟨gb203, 2, none⟩ = some (.int .i64 a0_2) := (blk_cell BK203.out 2).trans rfl
       have hcz65_3 : wc.cell? ⟨gb203, 3, none⟩ = some (.int .i64 a0_3) := (blk_cell BK203.out 3).trans rfl
       have hcz65_4 : wc.cell? ⟨gb203, 4, none⟩ = some (.int .u32 a0_4) := (blk_cell BK203.out 4).trans rfl
       have hfz65_0 := blk_frozen BK203.out 0
       have hfz65_1 := blk_frozen BK203.out 1
       have hfz65_2 := blk_frozen BK203.out 2
       have hfz65_3 := blk_frozen BK203.out 3
       have hfz65_4 := blk_frozen BK203.out 4
       go_wp2_with (first | (go_at_call 12; (with_reducible refine (rat_Right.calls kj5 a0_1 a0_2 true _ A26.out).mono ?_); rintro e w66 ⟨rfl, hb⟩; have n0_ := Aside0.mk (blk_below (g := gb203) (o := .cells #[.int .i64 a0_0, .int .i64 a0_1, .int .i64 a0_2, .int .i64 a0_3, .int .u32 a0_4] 40 (0, 0)) (by (with_reducible repeat (first | apply blk_drewN | apply blk_drew | apply blk_alloc)); exact BK203.out) hb); have n1_ := Aside0.mk (blk_below (g := gb204) (o := .cells #[.int .i64 a2_0, .int .i64 a2_1] 23 (0, 0)) (by (with_reducible repeat (first | apply blk_drewN | apply blk_drew | apply blk_alloc)); exact BK204.out) hb); have n2_ := Aside0.mk (blk_below (g := gb205) (o := .cells #[.int .i64 0, .int .i64 0, .int .i64 0, .int .i64 0, .int .u32 0] 40 (0, 0)) (by (with_reducible repeat (first | apply blk_drewN | apply blk_drew | apply blk_alloc)); exact BK205.out) hb); have n3_ := Aside0.mk (blk_below (g := gb206) (o := .cells #[.int .i64 0, .int .i64 0, .int .i64 0, .int .i64 0, .int .u32 0] 40 (0, 0)) (by (with_reducible repeat (first | apply blk_drewN | apply blk_drew | apply blk_alloc)); exact BK206.out) hb); have n4_ := Aside0.mk (below_step (by repeat (first | (with_reducible first | exact HB.out | apply below_alloc | apply pw_below_drewN | apply below_drew1 | refine below_set ?_ GE203.out | refine below_set ?_ GE204.out | refine below_set ?_ GE205.out | refine below_set ?_ GE206.out) | exact HB.out)) hb); clear BK203; clear BK204; clear BK205; clear BK206; clear HB; have BK203 := n0_; have BK204 := n1_; have BK205 := n2_; have BK206 := n3_; have HB := n4_; clear n0_ n1_ n2_ n3_ n4_; (try clear hb); (try clear hb2); (try clear hk); (try clear hi); have hnb67 := NB204_205.out; have hnc67 := NB205_204.out; have hnb68 := NB204_206.out; have hnc68 := NB206_204.out; have hcz69_0 : w66.cell? ⟨gb204, 0, none⟩ = some (.int .i64 a2_0) := (blk_cell BK204.out 0).trans rfl; have hcz69_1 : w66.cell? ⟨gb204, 1, none⟩ = some (.int .i64 a2_1) := (blk_cell BK204.out 1).trans rfl; have hfz69_0 := blk_frozen BK204.out 0; have hfz69_1 := blk_frozen BK204.out 1) | (go_at_call 12; (with_reducible refine (rat_Right.calls kj5 a2_0 a2_1 false _ A28.out).mono ?_); rintro e w70 ⟨rfl, hb⟩; have n0_ := Aside0.mk (blk_below (g := gb203) (o := .cells #[.int .i64 a0_0, .int .i64 a0_1, .int .i64 a0_2, .int .i64 a0_3, .int .u32 a0_4] 40 (0, 0)) (by (with_reducible repeat (first | apply blk_drewN | apply blk_drew | apply blk_alloc)); exact BK203.out) hb); have n1_ := Aside0.mk (blk_below (g := gb204) (o := .cells #[.int .i64 a2_0, .int .i64 a2_1] 23 (0, 0)) (by (with_reducible repeat (first | apply blk_drewN | apply blk_drew | apply blk_alloc)); exact BK204.out) hb); have n2_ := Aside0.mk (blk_below (g := gb205) (o := .cells #[.int .i64 0, .int .i64 0, .int .i64 0, .int .i64 0, .int .u32 0] 40 (0, 0)) (by (with_reducible repeat (first | apply blk_drewN | apply blk_drew | apply blk_alloc)); exact BK205.out) hb); have n3_ := Aside0.mk (blk_below (g := gb206) (o := .cells #[.int .i64 0, .int .i64 0, .int .i64 0, .int .i64 0, .int .u32 0] 40 (0, 0)) (by (with_reducible repeat (first | apply blk_drewN | apply blk_drew | apply blk_alloc)); exact BK206.out) hb); have n4_ := Aside0.mk (below_step (by repeat (first | (with_reducible first | exact HB.out | apply below_alloc | apply pw_below_drewN | apply below_drew1 | refine below_set ?_ GE203.out | refine below_set ?_ GE204.out | refine below_set ?_ GE205.out | refine below_set ?_ GE206.out) | exact HB.out)) hb); clear BK203; clear BK204; clear BK205; clear BK206; clear HB; have BK203 := n0_; have BK204 := n1_; have BK205 := n2_; have BK206 := n3_; have HB := n4_; clear n0_ n1_ n2_ n3_ n4_; (try clear hb); (try clear hb2); (try clear hk); (try clear hi)))
       go_meet
       case rel => exact ⟨_, (true), (by first | rfl | (simp; done) | (simp [*]; done)), H', ⟨by have := HJ5.out; first | omega | exact Nat.le_refl _⟩, ⟨by (with_reducible repeat (first | apply blk_drewN | apply blk_drew | apply blk_alloc)); exact BK203.out⟩, ⟨by (with_reducible repeat (first | apply blk_drewN | apply blk_drew | apply blk_alloc)); exact BK204.out⟩, ⟨by (with_reducible repeat (first | apply blk_drewN | apply blk_drew | apply blk_alloc)); exact BK205.out⟩, ⟨by (with_reducible repeat (first | apply blk_drewN | apply blk_drew | apply blk_alloc)); exact BK206.out⟩, ⟨by repeat (first | (with_reducible first | exact HB.out | apply below_alloc | apply pw_below_drewN | apply below_drew1 | refine below_set ?_ GE203.out | refine below_set ?_ GE204.out | refine below_set ?_ GE205.out | refine below_set ?_ GE206.out) | exact HB.out)⟩⟩
     ·replace c27 := Bool.eq_false_iff.mpr c27
      subst c27
      have H1 : (perm_Split.j1 kj5 a1 a3 t207 x13_5 true a0_0 a0_1 a0_2 a0_3 a0_4 a2_0 a2_1) = some (r1, r2, r3, r4, r5, r6, r7, r8, r9, r10, r11) := by rw [if_neg (show ¬ (false = true) by decide)] at H; exact H
      clear H
      have H := H1
      clear H1
      have H' := Aside0.mk H
      clear H
      have hnb71 := NB203_204.out
      have hnc71 := NB204_203.out
      have hnb72 := NB203_205.out
      have hnc72 := NB205_203.out
      have hnb73 := NB203_206.out
      have hnc73 := NB206_203.out
      have hcz74_0 : wc.cell? ⟨gb203, 0, none⟩ = some (.int .i64 a0_0) := (blk_cell BK203.out 0).trans rfl
      have hcz74_1 : wc.cell? ⟨gb203, 1, none⟩ = some (.int .i64 a0_1) := (blk_cell BK203.out 1).trans rfl
      have hcz74_2 : wc.cell? ⟨gb203, 2, none⟩ = some (.int .i64 a0_2) := (blk_cell BK203.out 2).trans rfl
      have hcz74_3 : wc.cell? ⟨gb203, 3, none⟩ = some (.int .i64 a0_3) := (blk_cell BK203.out 3).trans rfl
      have hcz74_4 : wc.cell? ⟨gb203, 4, none⟩ = some (.int .u32 a0_4) := (blk_cell BK203.out 4).trans rfl
      have hfz74_0 := blk_frozen BK203.out 0
      have hfz74_1 := blk_frozen BK203.out 1
      have hfz74_2 := blk_frozen BK203.out 2
      have hfz74_3 := blk_frozen BK203.out 3
      have hfz74_4 := blk_frozen BK203.out 4
      go_wp2_with (first | (go_at_call 12; (with_reducible refine (rat_Right.calls kj5 a0_1 a0_2 false _ A26.out).mono ?_); rintro e w75 ⟨rfl, hb⟩; have n0_ := Aside0.mk (blk_below (g := gb203) (o := .cells #[.int .i64 a0_0, .int .i64 a0_1, .int .i64 a0_2, .int .i64 a0_3, .int .u32 a0_4] 40 (0, 0)) (by (with_reducible repeat (first | apply blk_drewN | apply blk_drew | apply blk_alloc)); exact BK203.out) hb); have n1_ := Aside0.mk (blk_below (g := gb204) (o := .cells #[.int .i64 a2_0, .int .i64 a2_1] 23 (0, 0)) (by (with_reducible repeat (first | apply blk_drewN | apply blk_drew | apply blk_alloc)); exact BK204.out) hb); have n2_ := Aside0.mk (blk_below (g := gb205) (o := .cells #[.int .i64 0, .int .i64 0, .int .i64 0, .int .i64 0, .int .u32 0] 40 (0, 0)) (by (with_reducible repeat (first | apply blk_drewN | apply blk_drew | apply blk_alloc)); exact BK205.out) hb); have n3_ := Aside0.mk (blk_below (g := gb206) (o := .cells #[.int .i64 0, .int .i64 0, .int .i64 0, .int .i64 0, .int .u32 0] 40 (0, 0)) (by (with_reducible repeat (first | apply blk_drewN | apply blk_drew | apply blk_alloc)); exact BK206.out) hb); have n4_ := Aside0.mk (below_step (by repeat (first | (with_reducible first | exact HB.out | apply below_alloc | apply pw_below_drewN | apply below_drew1 | refine below_set ?_ GE203.out | refine below_set ?_ GE204.out | refine below_set ?_ GE205.out | refine below_set ?_ GE206.out) | exact HB.out)) hb); clear BK203; clear BK204; clear BK205; clear BK206; clear HB; have BK203 := n0_; have BK204 := n1_; have BK205 := n2_; have BK206 := n3_; have HB := n4_; clear n0_ n1_ n2_ n3_ n4_; (try clear hb); (try clear hb2); (try clear hk); (try clear hi)))
      go_meet
      case rel => exact ⟨_, (true), (by first | rfl | (simp; done) | (simp [*]; done)), H', ⟨by have := HJ5.out; first | omega | exact Nat.le_refl _⟩, ⟨by (with_reducible repeat (first | apply blk_drewN | apply blk_drew | apply blk_alloc)); exact BK203.out⟩, ⟨by (with_reducible repeat (first | apply blk_drewN | apply blk_drew | apply blk_alloc)); exact BK204.out⟩, ⟨by (with_reducible repeat (first | apply blk_drewN | apply blk_drew | apply blk_alloc)); exact BK205.out⟩, ⟨by (with_reducible repeat (first | apply blk_drewN | apply blk_drew | apply blk_alloc)); exact BK206.out⟩, ⟨by repeat (first | (with_reducible first | exact HB.out | apply below_alloc | apply pw_below_drewN | apply below_drew1 | refine below_set ?_ GE203.out | refine below_set ?_ GE204.out | refine below_set ?_ GE205.out | refine below_set ?_ GE206.out) | exact HB.out)⟩⟩
    ·replace c25 := Bool.eq_false_iff.mpr c25
     subst c25
     have H1 : (perm_Split.j1 kj5 a1 a3 t207 x13_5 true a0_0 a0_1 a0_2 a0_3 a0_4 a2_0 a2_1) = some (r1, r2, r3, r4, r5, r6, r7, r8, r9, r10, r11) := by rw [if_neg (show ¬ (false = true) by decide)] at H; exact H
     clear H
     have H := H1
     clear H1
     have H' := Aside0.mk H
     clear H
     go_wp2
     go_meet
     case rel => exact ⟨_, (true), (by first | rfl | (simp; done) | (simp [*]; done)), H', ⟨by have := HJ5.out; first | omega | exact Nat.le_refl _⟩, ⟨by (with_reducible repeat (first | apply blk_drewN | apply blk_drew | apply blk_alloc)); exact BK203.out⟩, ⟨by (with_reducible repeat (first | apply blk_drewN | apply blk_drew | apply blk_alloc)); exact BK204.out⟩, ⟨by (with_reducible repeat (first | apply blk_drewN | apply blk_drew | apply blk_alloc)); exact BK205.out⟩, ⟨by (with_reducible repeat (first | apply blk_drewN | apply blk_drew | apply blk_alloc)); exact BK206.out⟩, ⟨by repeat (first | (with_reducible first | exact HB.out | apply below_alloc | apply pw_below_drewN | apply below_drew1 | refine below_set ?_ GE203.out | refine below_set ?_ GE204.out | refine below_set ?_ GE205.out | refine below_set ?_ GE206.out) | exact HB.out)⟩⟩
   case rest =>
    clear HC24
    (try clear c1); (try clear c2); (try clear p2); (try clear c3); (try clear c4); (try clear c5); (try clear c6); (try clear c7); (try clear c11); (try clear c12); (try clear c13); (try clear c15); (try clear c15b0); (try clear c15b1); (try clear c16); (try clear c17); (try clear c18); (try clear c20); (try clear c21); (try clear c22); (try clear c23); (try clear c25); (try clear c27); (try clear c29); (try clear c30); (try clear c30b0); (try clear c31); (try clear c32); (try clear c33); (try clear c36); (try clear c37); (try clear c38); (try clear c41); (try clear c41b0); (try clear c42); (try clear c43); (try clear c44); (try clear c47); (try clear c48); (try clear c52); (try clear c53); (try clear c54); (try clear c57); (try clear c58); (try clear c62); (try clear c63); (try clear c64); (try clear c67); (try clear c68); (try clear c71); (try clear c72); (try clear c73); (try clear hcz14_0); (try clear hcz14_1); (try clear hcz14_2); (try clear hcz14_3); (try clear hcz14_4); (try clear hcz19_0); (try clear hcz19_1); (try clear hcz19_2); (try clear hcz19_3); (try clear hcz19_4); (try clear hcz23_0); (try clear hcz23_1); (try clear hcz23_2); (try clear hcz23_3); (try clear hcz23_4); (try clear hcz34_0); (try clear hcz34_1); (try clear hcz34_2); (try clear hcz34_3); (try clear hcz34_4); (try clear hcz38_0); (try clear hcz38_1); (try clear hcz40_0); (try clear hcz40_1); (try clear hcz45_0); (try clear hcz45_1); (try clear hcz45_2); (try clear hcz45_3); (try clear hcz45_4); (try clear hcz49_0); (try clear hcz49_1); (try clear hcz51_0); (try clear hcz51_1); (try clear hcz55_0); (try clear hcz55_1); (try clear hcz55_2); (try clear hcz55_3); (try clear hcz55_4); (try clear hcz59_0); (try clear hcz59_1); (try clear hcz61_0); (try clear hcz61_1); (try clear hcz65_0); (try clear hcz65_1); (try clear hcz65_2); (try clear hcz65_3); (try clear hcz65_4); (try clear hcz69_0); (try clear hcz69_1); (try clear hcz74_0); (try clear hcz74_1); (try clear hcz74_2); (try clear hcz74_3); (try clear hcz74_4); (try clear hfz14_0); (try clear hfz14_1); (try clear hfz14_2); (try clear hfz14_3); (try clear hfz14_4); (try clear hfz19_0); (try clear hfz19_1); (try clear hfz19_2); (try clear hfz19_3); (try clear hfz19_4); (try clear hfz23_0); (try clear hfz23_1); (try clear hfz23_2); (try clear hfz23_3); (try clear hfz23_4); (try clear hfz34_0); (try clear hfz34_1); (try clear hfz34_2); (try clear hfz34_3); (try clear hfz34_4); (try clear hfz38_0); (try clear hfz38_1); (try clear hfz40_0); (try clear hfz40_1); (try clear hfz45_0); (try clear hfz45_1); (try clear hfz45_2); (try clear hfz45_3); (try clear hfz45_4); (try clear hfz49_0); (try clear hfz49_1); (try clear hfz51_0); (try clear hfz51_1); (try clear hfz55_0); (try clear hfz55_1); (try clear hfz55_2); (try clear hfz55_3); (try clear hfz55_4); (try clear hfz59_0); (try clear hfz59_1); (try clear hfz61_0); (try clear hfz61_1); (try clear hfz65_0); (try clear hfz65_1); (try clear hfz65_2); (try clear hfz65_3); (try clear hfz65_4); (try clear hfz69_0); (try clear hfz69_1); (try clear hfz74_0); (try clear hfz74_1); (try clear hfz74_2); (try clear hfz74_3); (try clear hfz74_4); (try clear p2)
    obtain ⟨kq, x61_23, rfl, HA, HJ23, BK203, BK204, BK205, BK206, HB⟩ := hcut
    cases kq with
    | zero => exact absurd HA.out (by simp [perm_Split.j1])
    | succ kj23 =>
     have H := HA.out
     clear HA
     simp only [perm_Split.j1] at H
     by_cases c76 : x61_23 = true
     ·subst c76
      have H1 : (some (0, 0, 0, 0, 0, 0, 0, 0, 0, 0, 2)) = some (r1, r2, r3, r4, r5, r6, r7, r8, r9, r10, r11) := by rw [if_pos rfl] at H; exact H
      clear H
      have H := H1
      clear H1
      simp only [Option.some.injEq, Prod.mk.injEq] at H
      obtain ⟨rfl, rfl, rfl, rfl, rfl, rfl, rfl, rfl, rfl, rfl, rfl⟩ := H
      have hnb77 := NB205_203.out
      have hnc77 := NB203_205.out
      have hnb78 := NB205_204.out
      have hnc78 := NB204_205.out
      have hnb79 := NB205_206.out
      have hnc79 := NB206_205.out
      have hcz80_0 : wc.cell? ⟨gb205, 0, none⟩ = some (.int .i64 0) := (blk_cell BK205.out 0).trans rfl
      have hcz80_1 : wc.cell? ⟨gb205, 1, none⟩ = some (.int .i64 0) := (blk_cell BK205.out 1).trans rfl
      have hcz80_2 : wc.cell? ⟨gb205, 2, none⟩ = some (.int .i64 0) := (blk_cell BK205.out 2).trans rfl
      have hcz80_3 : wc.cell? ⟨gb205, 3, none⟩ = some (.int .i64 0) := (blk_cell BK205.out 3).trans rfl
      have hcz80_4 : wc.cell? ⟨gb205, 4, none⟩ = some (.int .u32 0) := (blk_cell BK205.out 4).trans rfl
      have hfz80_0 := blk_frozen BK205.out 0
      have hfz80_1 := blk_frozen BK205.out 1
      have hfz80_2 := blk_frozen BK205.out 2
      have hfz80_3 := blk_frozen BK205.out 3
      have hfz80_4 := blk_frozen BK205.out 4
      have hnb81 := NB206_203.out
      have hnc81 := NB203_206.out
      have hnb82 := NB206_204.out
      have hnc82 := NB204_206.out
      have hcz83_0 : wc.cell? ⟨gb206, 0, none⟩ = some (.int .i64 0) := (blk_cell BK206.out 0).trans rfl
      have hcz83_1 : wc.cell? ⟨gb206, 1, none⟩ = some (.int .i64 0) := (blk_cell BK206.out 1).trans rfl
      have hcz83_2 : wc.cell? ⟨gb206, 2, none⟩ = some (.int .i64 0) := (blk_cell BK206.out 2).trans rfl
      have hcz83_3 : wc.cell? ⟨gb206, 3, none⟩ = some (.int .i64 0) := (blk_cell BK206.out 3).trans rfl
      have hcz83_4 : wc.cell? ⟨gb206, 4, none⟩ = some (.int .u32 0) := (blk_cell BK206.out 4).trans rfl
      have hfz83_0 := blk_frozen BK206.out 0
      have hfz83_1 := blk_frozen BK206.out 1
      have hfz83_2 := blk_frozen BK206.out 2
      have hfz83_3 := blk_frozen BK206.out 3
      have hfz83_4 := blk_frozen BK206.out 4
      go_wp2
      refine bodyPost_ret (results_list (rs := [.cell 8 40, .cell 9 40, .tmp 10]) rfl (by simp) (.cell gb205 40 #[.int .i64 0, .int .i64 0, .int .i64 0, .int .i64 0, .int .u32 0] (0, 0) _ rfl (by (with_reducible repeat (first | apply blk_drewN | apply blk_drew | apply blk_alloc)); refine blk_far ?_ NB205_206.out _; (with_reducible repeat (first | apply blk_drewN | apply blk_drew | apply blk_alloc)); refine blk_far ?_ NB205_206.out _; (with_reducible repeat (first | apply blk_drewN | apply blk_drew | apply blk_alloc)); refine blk_far ?_ NB205_206.out _; (with_reducible repeat (first | apply blk_drewN | apply blk_drew | apply blk_alloc)); refine blk_far ?_ NB205_206.out _; (with_reducible repeat (first | apply blk_drewN | apply blk_drew | apply blk_alloc)); refine blk_far ?_ NB205_206.out _; (with_reducible repeat (first | apply blk_drewN | apply blk_drew | apply blk_alloc)); refine blk_put (cs := #[.int .i64 0, .int .i64 0, .int .i64 0, .int .i64 0, .int .u32 0]) ?_ 4 _ rfl; (with_reducible repeat (first | apply blk_drewN | apply blk_drew | apply blk_alloc)); refine blk_put (cs := #[.int .i64 0, .int .i64 0, .int .i64 0, .int .i64 0, .int .u32 0]) ?_ 3 _ rfl; (with_reducible repeat (first | apply blk_drewN | apply blk_drew | apply blk_alloc)); refine blk_put (cs := #[.int .i64 0, .int .i64 0, .int .i64 0, .int .i64 0, .int .u32 0]) ?_ 2 _ rfl; (with_reducible repeat (first | apply blk_drewN | apply blk_drew | apply blk_alloc)); refine blk_put (cs := #[.int .i64 0, .int .i64 0, .int .i64 0, .int .i64 0, .int .u32 0]) ?_ 1 _ rfl; (with_reducible repeat (first | apply blk_drewN | apply blk_drew | apply blk_alloc)); refine blk_put (cs := #[.int .i64 0, .int .i64 0, .int .i64 0, .int .i64 0, .int .u32 0]) ?_ 0 _ rfl; (with_reducible repeat (first | apply blk_drewN | apply blk_drew | apply blk_alloc)); exact BK205.out) Try.underlying40 rfl (by kernel_rfl) (.cell gb206 40 #[.int .i64 0, .int .i64 0, .int .i64 0, .int .i64 0, .int .u32 0] (0, 0) _ rfl (by (with_reducible repeat (first | apply blk_drewN | apply blk_drew | apply blk_alloc)); refine blk_put (cs := #[.int .i64 0, .int .i64 0, .int .i64 0, .int .i64 0, .int .u32 0]) ?_ 4 _ rfl; (with_reducible repeat (first | apply blk_drewN | apply blk_drew | apply blk_alloc)); refine blk_put (cs := #[.int .i64 0, .int .i64 0, .int .i64 0, .int .i64 0, .int .u32 0]) ?_ 3 _ rfl; (with_reducible repeat (first | apply blk_drewN | apply blk_drew | apply blk_alloc)); refine blk_put (cs := #[.int .i64 0, .int .i64 0, .int .i64 0, .int .i64 0, .int .u32 0]) ?_ 2 _ rfl; (with_reducible repeat (first | apply blk_drewN | apply blk_drew | apply blk_alloc)); refine blk_put (cs := #[.int .i64 0, .int .i64 0, .int .i64 0, .int .i64 0, .int .u32 0]) ?_ 1 _ rfl; (with_reducible repeat (first | apply blk_drewN | apply blk_drew | apply blk_alloc)); refine blk_put (cs := #[.int .i64 0, .int .i64 0, .int .i64 0, .int .i64 0, .int .u32 0]) ?_ 0 _ rfl; (repeat (first | (with_reducible first | apply blk_drewN | apply blk_drew | apply blk_alloc) | refine blk_far ?_ NB206_205.out _)); exact BK206.out) Try.underlying40 rfl (by kernel_rfl) (.tmp .nil)))) rfl ?_
      exact ⟨by first | rfl | (simp [errW_none, errW_some] <;> rfl) | (simp [*, errW_none, errW_some] <;> rfl), by repeat (first | (with_reducible first | exact HB.out | apply below_alloc | apply pw_below_drewN | apply below_drew1 | refine below_set ?_ GE203.out | refine below_set ?_ GE204.out | refine below_set ?_ GE205.out | refine below_set ?_ GE206.out) | exact HB.out)⟩
     ·replace c76 := Bool.eq_false_iff.mpr c76
      subst c76
      have H1 : ((perm_parts.f kj23 a0_1 a0_2 a2_0 a2_1).bind fun bt211 => (if bt211.2.2.2.2 = 0 then (if x13_5 = true then (perm_Split.j2 kj23 a1 a3 t207 a0_0 a0_1 a0_2 a0_3 a0_4 bt211.1 bt211.2.1 bt211.2.2.1 bt211.2.2.2.1) else (perm_Split.j2 kj23 a1 a0_4 t207 a0_0 a0_1 a0_2 a0_3 a0_4 bt211.1 bt211.2.1 bt211.2.2.1 bt211.2.2.2.1)) else (some (0, 0, 0, 0, 0, 0, 0, 0, 0, 0, bt211.2.2.2.2)))) = some (r1, r2, r3, r4, r5, r6, r7, r8, r9, r10, r11) := by rw [if_neg (show ¬ (false = true) by decide)] at H; exact H
      clear H
      have H := H1
      clear H1
      replace H := Option.bind_eq_some_iff.mp H
      obtain ⟨⟨t211, t212, t213, t214, t215⟩, A840, H⟩ := H
      replace H : (if t215 = 0 then (if x13_5 = true then (perm_Split.j2 kj23 a1 a3 t207 a0_0 a0_1 a0_2 a0_3 a0_4 t211 t212 t213 t214) else (perm_Split.j2 kj23 a1 a0_4 t207 a0_0 a0_1 a0_2 a0_3 a0_4 t211 t212 t213 t214)) else (some (0, 0, 0, 0, 0, 0, 0, 0, 0, 0, t215))) = some (r1, r2, r3, r4, r5, r6, r7, r8, r9, r10, r11) := H
      have A84 := Aside0.mk A840
      clear A840
      by_cases c85 : t215 = 0
      ·rw [if_pos c85] at H
       have c85b0 : (t215 == 0) = true := beq_iff_eq.mpr c85
       have c85b1 : (t215 != 0) = false := bne_eq_false_iff_eq.mpr c85
       clear c85
       have HC86 := Aside0.mk H
       clear H
       have hnb87 := NB203_204.out
       have hnc87 := NB204_203.out
       have hnb88 := NB203_205.out
       have hnc88 := NB205_203.out
       have hnb89 := NB203_206.out
       have hnc89 := NB206_203.out
       have hcz90_0 : wc.cell? ⟨gb203, 0, none⟩ = some (.int .i64 a0_0) := (blk_cell BK203.out 0).trans rfl
       have hcz90_1 : wc.cell? ⟨gb203, 1, none⟩ = some (.int .i64 a0_1) := (blk_cell BK203.out 1).trans rfl
       have hcz90_2 : wc.cell? ⟨gb203, 2, none⟩ = some (.int .i64 a0_2) := (blk_cell BK203.out 2).trans rfl
       have hcz90_3 : wc.cell? ⟨gb203, 3, none⟩ = some (.int .i64 a0_3) := (blk_cell BK203.out 3).trans rfl
       have hcz90_4 : wc.cell? ⟨gb203, 4, none⟩ = some (.int .u32 a0_4) := (blk_cell BK203.out 4).trans rfl
       have hfz90_0 := blk_frozen BK203.out 0
       have hfz90_1 := blk_frozen BK203.out 1
       have hfz90_2 := blk_frozen BK203.out 2
       have hfz90_3 := blk_frozen BK203.out 3
       have hfz90_4 := blk_frozen BK203.out 4
       have hnb91 := NB204_205.out
       have hnc91 := NB205_204.out
       have hnb92 := NB204_206.out
       have hnc92 := NB206_204.out
       have hcz93_0 : wc.cell? ⟨gb204, 0, none⟩ = some (.int .i64 a2_0) := (blk_cell BK204.out 0).trans rfl
       have hcz93_1 : wc.cell? ⟨gb204, 1, none⟩ = some (.int .i64 a2_1) := (blk_cell BK204.out 1).trans rfl
       have hfz93_0 := blk_frozen BK204.out 0
       have hfz93_1 := blk_frozen BK204.out 1
       go_upto_if 78 with (first | ((with_reducible refine gate_callee (f := 39) rfl ?_); refine goesL_ (some 68) rfl rfl Try.func39 (by kernel_rfl) rfl #[.agg #[.int .i64 a0_1, .int .i64 a0_2], .agg #[.int .i64 a2_0, .int .i64 a2_1]] rfl (by (try simp only [List.map_toArray, List.map_cons, List.map_nil]); first | done | rfl | (simp only [List.length_drop, List.length_take]; rfl)) ?_; (with_reducible refine (perm_parts.calls kj23 a0_1 a0_2 a2_0 a2_1 t211 t212 t213 t214 t215 _ A84.out).mono ?_); rintro e w94 ⟨rfl, hb⟩; refine ⟨_, rfl, ?_⟩; have n0_ := Aside0.mk (blk_below (g := gb203) (o := .cells #[.int .i64 a0_0, .int .i64 a0_1, .int .i64 a0_2, .int .i64 a0_3, .int .u32 a0_4] 40 (0, 0)) (by (with_reducible repeat (first | apply blk_drewN | apply blk_drew | apply blk_alloc)); exact BK203.out) hb); have n1_ := Aside0.mk (blk_below (g := gb204) (o := .cells #[.int .i64 a2_0, .int .i64 a2_1] 23 (0, 0)) (by (with_reducible repeat (first | apply blk_drewN | apply blk_drew | apply blk_alloc)); exact BK204.out) hb); have n2_ := Aside0.mk (blk_below (g := gb205) (o := .cells #[.int .i64 0, .int .i64 0, .int .i64 0, .int .i64 0, .int .u32 0] 40 (0, 0)) (by (with_reducible repeat (first | apply blk_drewN | apply blk_drew | apply blk_alloc)); exact BK205.out) hb); have n3_ := Aside0.mk (blk_below (g := gb206) (o := .cells #[.int .i64 0, .int .i64 0, .int .i64 0, .int .i64 0, .int .u32 0] 40 (0, 0)) (by (with_reducible repeat (first | apply blk_drewN | apply blk_drew | apply blk_alloc)); exact BK206.out) hb); have n4_ := Aside0.mk (below_step (by repeat (first | (with_reducible first | exact HB.out | apply below_alloc | apply pw_below_drewN | apply below_drew1 | refine below_set ?_ GE203.out | refine below_set ?_ GE204.out | refine below_set ?_ GE205.out | refine below_set ?_ GE206.out) | exact HB.out)) hb); clear BK203; clear BK204; clear BK205; clear BK206; clear HB; have BK203 := n0_; have BK204 := n1_; have BK205 := n2_; have BK206 := n3_; have HB := n4_; clear n0_ n1_ n2_ n3_ n4_; (try clear hb); (try clear hb2); (try clear hk); (try clear hi)) | ((with_reducible refine gate_dst (N := 14) rfl ?_); refine box_event ?hg (N := 14) ?hd (cs := #[.int .i64 0, .int .i64 0]) (t := 23) ?hr ?_; (case hd => rfl); (case hg => rfl); (case hr => first | (go_simp; done) | (go_simp; rfl)); intro gb216 hg w95 hbox hb; have n0_ := Aside0.mk (blk_below (g := gb203) (o := .cells #[.int .i64 a0_0, .int .i64 a0_1, .int .i64 a0_2, .int .i64 a0_3, .int .u32 a0_4] 40 (0, 0)) (by (with_reducible repeat (first | apply blk_drewN | apply blk_drew | apply blk_alloc)); exact BK203.out) hb); have n1_ := Aside0.mk (blk_below (g := gb204) (o := .cells #[.int .i64 a2_0, .int .i64 a2_1] 23 (0, 0)) (by (with_reducible repeat (first | apply blk_drewN | apply blk_drew | apply blk_alloc)); exact BK204.out) hb); have n2_ := Aside0.mk (blk_below (g := gb205) (o := .cells #[.int .i64 0, .int .i64 0, .int .i64 0, .int .i64 0, .int .u32 0] 40 (0, 0)) (by (with_reducible repeat (first | apply blk_drewN | apply blk_drew | apply blk_alloc)); exact BK205.out) hb); have n3_ := Aside0.mk (blk_below (g := gb206) (o := .cells #[.int .i64 0, .int .i64 0, .int .i64 0, .int .i64 0, .int .u32 0] 40 (0, 0)) (by (with_reducible repeat (first | apply blk_drewN | apply blk_drew | apply blk_alloc)); exact BK206.out) hb); have n4_ := Aside0.mk (below_step (by repeat (first | (with_reducible first | exact HB.out | apply below_alloc | apply pw_below_drewN | apply below_drew1 | refine below_set ?_ GE203.out | refine below_set ?_ GE204.out | refine below_set ?_ GE205.out | refine below_set ?_ GE206.out) | exact HB.out)) hb); have n5_ := Aside0.mk (hbox); have n6_ := Aside0.mk ((by rw [hg]; exact (below_size (by repeat (first | (with_reducible first | exact HB.out | apply below_alloc | apply pw_below_drewN | apply below_drew1 | refine below_set ?_ GE203.out | refine below_set ?_ GE204.out | refine below_set ?_ GE205.out | refine below_set ?_ GE206.out) | exact HB.out))) : w.heap.size ≤ gb216)); have n7_ := Aside0.mk ((by rw [hg]; exact (below_size (by repeat (first | (with_reducible first | exact HB.out | apply below_alloc | apply pw_below_drewN | apply below_drew1 | refine below_set ?_ GE203.out | refine below_set ?_ GE204.out | refine below_set ?_ GE205.out | refine below_set ?_ GE206.out) | exact HB.out))) : w.heap.size ≤ gb216)); have n8_ := Aside0.mk ((by rw [hg]; exact Nat.ne_of_lt (blk_lt (g := gb203) (o := .cells #[.int .i64 a0_0, .int .i64 a0_1, .int .i64 a0_2, .int .i64 a0_3, .int .u32 a0_4] 40 (0, 0)) (by (with_reducible repeat (first | apply blk_drewN | apply blk_drew | apply blk_alloc)); exact BK203.out)) : gb203 ≠ gb216)); have n9_ := Aside0.mk ((by rw [hg]; exact Nat.ne_of_gt (blk_lt (g := gb203) (o := .cells #[.int .i64 a0_0, .int .i64 a0_1, .int .i64 a0_2, .int .i64 a0_3, .int .u32 a0_4] 40 (0, 0)) (by (with_reducible repeat (first | apply blk_drewN | apply blk_drew | apply blk_alloc)); exact BK203.out)) : gb216 ≠ gb203)); have n10_ := Aside0.mk ((by rw [hg]; exact Nat.ne_of_lt (blk_lt (g := gb204) (o := .cells #[.int .i64 a2_0, .int .i64 a2_1] 23 (0, 0)) (by (with_reducible repeat (first | apply blk_drewN | apply blk_drew | apply blk_alloc)); exact BK204.out)) : gb204 ≠ gb216)); have n11_ := Aside0.mk ((by rw [hg]; exact Nat.ne_of_gt (blk_lt (g := gb204) (o := .cells #[.int .i64 a2_0, .int .i64 a2_1] 23 (0, 0)) (by (with_reducible repeat (first | apply blk_drewN | apply blk_drew | apply blk_alloc)); exact BK204.out)) : gb216 ≠ gb204)); have n12_ := Aside0.mk ((by rw [hg]; exact Nat.ne_of_lt (blk_lt (g := gb205) (o := .cells #[.int .i64 0, .int .i64 0, .int .i64 0, .int .i64 0, .int .u32 0] 40 (0, 0)) (by (with_reducible repeat (first | apply blk_drewN | apply blk_drew | apply blk_alloc)); exact BK205.out)) : gb205 ≠ gb216)); have n13_ := Aside0.mk ((by rw [hg]; exact Nat.ne_of_gt (blk_lt (g := gb205) (o := .cells #[.int .i64 0, .int .i64 0, .int .i64 0, .int .i64 0, .int .u32 0] 40 (0, 0)) (by (with_reducible repeat (first | apply blk_drewN | apply blk_drew | apply blk_alloc)); exact BK205.out)) : gb216 ≠ gb205)); have n14_ := Aside0.mk ((by rw [hg]; exact Nat.ne_of_lt (blk_lt (g := gb206) (o := .cells #[.int .i64 0, .int .i64 0, .int .i64 0, .int .i64 0, .int .u32 0] 40 (0, 0)) (by (with_reducible repeat (first | apply blk_drewN | apply blk_drew | apply blk_alloc)); exact BK206.out)) : gb206 ≠ gb216)); have n15_ := Aside0.mk ((by rw [hg]; exact Nat.ne_of_gt (blk_lt (g := gb206) (o := .cells #[.int .i64 0, .int .i64 0, .int .i64 0, .int .i64 0, .int .u32 0] 40 (0, 0)) (by (with_reducible repeat (first | apply blk_drewN | apply blk_drew | apply blk_alloc)); exact BK206.out)) : gb216 ≠ gb206)); clear BK203; clear BK204; clear BK205; clear BK206; clear HB; have BK203 := n0_; have BK204 := n1_; have BK205 := n2_; have BK206 := n3_; have HB := n4_; have BK216 := n5_; have GW216 := n6_; have GE216 := n7_; have NB203_216 := n8_; have NB216_203 := n9_; have NB204_216 := n10_; have NB216_204 := n11_; have NB205_216 := n12_; have NB216_205 := n13_; have NB206_216 := n14_; have NB216_206 := n15_; clear n0_ n1_ n2_ n3_ n4_ n5_ n6_ n7_ n8_ n9_ n10_ n11_ n12_ n13_ n14_ n15_; clear hb hbox hg) | ((with_reducible refine gate_dst (N := 15) rfl ?_); refine box_event ?hg (N := 15) ?hd (cs := #[.int .i64 0, .int .i64 0]) (t := 23) ?hr ?_; (case hd => rfl); (case hg => rfl); (case hr => first | (go_simp; done) | (go_simp; rfl)); intro gb217 hg w96 hbox hb; have n0_ := Aside0.mk (blk_below (g := gb203) (o := .cells #[.int .i64 a0_0, .int .i64 a0_1, .int .i64 a0_2, .int .i64 a0_3, .int .u32 a0_4] 40 (0, 0)) (by (with_reducible repeat (first | apply blk_drewN | apply blk_drew | apply blk_alloc)); exact BK203.out) hb); have n1_ := Aside0.mk (blk_below (g := gb204) (o := .cells #[.int .i64 a2_0, .int .i64 a2_1] 23 (0, 0)) (by (with_reducible repeat (first | apply blk_drewN | apply blk_drew | apply blk_alloc)); exact BK204.out) hb); have n2_ := Aside0.mk (blk_below (g := gb205) (o := .cells #[.int .i64 0, .int .i64 0, .int .i64 0, .int .i64 0, .int .u32 0] 40 (0, 0)) (by (with_reducible repeat (first | apply blk_drewN | apply blk_drew | apply blk_alloc)); exact BK205.out) hb); have n3_ := Aside0.mk (blk_below (g := gb206) (o := .cells #[.int .i64 0, .int .i64 0, .int .i64 0, .int .i64 0, .int .u32 0] 40 (0, 0)) (by (with_reducible repeat (first | apply blk_drewN | apply blk_drew | apply blk_alloc)); exact BK206.out) hb); have n4_ := Aside0.mk (blk_below (g := gb216) (o := .cells #[.int .i64 0, .int .i64 0] 23 (0, 0)) (by (with_reducible repeat (first | apply blk_drewN | apply blk_drew | apply blk_alloc)); exact BK216.out) hb); have n5_ := Aside0.mk (below_step (by repeat (first | (with_reducible first | exact HB.out | apply below_alloc | apply pw_below_drewN | apply below_drew1 | refine below_set ?_ GE203.out | refine below_set ?_ GE204.out | refine below_set ?_ GE205.out | refine below_set ?_ GE206.out | refine below_set ?_ GE216.out) | exact HB.out)) hb); have n6_ := Aside0.mk (hbox); have n7_ := Aside0.mk ((by rw [hg]; exact (below_size (by repeat (first | (with_reducible first | exact HB.out | apply below_alloc | apply pw_below_drewN | apply below_drew1 | refine below_set ?_ GE203.out | refine below_set ?_ GE204.out | refine below_set ?_ GE205.out | refine below_set ?_ GE206.out | refine below_set ?_ GE216.out) | exact HB.out))) : w.heap.size ≤ gb217)); have n8_ := Aside0.mk ((by rw [hg]; exact (below_size (by repeat (first | (with_reducible first | exact HB.out | apply below_alloc | apply pw_below_drewN | apply below_drew1 | refine below_set ?_ GE203.out | refine below_set ?_ GE204.out | refine below_set ?_ GE205.out | refine below_set ?_ GE206.out | refine below_set ?_ GE216.out) | exact HB.out))) : w.heap.size ≤ gb217)); have n9_ := Aside0.mk ((by rw [hg]; exact Nat.ne_of_lt (blk_lt (g := gb203) (o := .cells #[.int .i64 a0_0, .int .i64 a0_1, .int .i64 a0_2, .int .i64 a0_3, .int .u32 a0_4] 40 (0, 0)) (by (with_reducible repeat (first | apply blk_drewN | apply blk_drew | apply blk_alloc)); exact BK203.out)) : gb203 ≠ gb217)); have n10_ := Aside0.mk ((by rw [hg]; exact Nat.ne_of_gt (blk_lt (g := gb203) (o := .cells #[.int .i64 a0_0, .int .i64 a0_1, .int .i64 a0_2, .int .i64 a0_3, .int .u32 a0_4] 40 (0, 0)) (by (with_reducible repeat (first | apply blk_drewN | apply blk_drew | apply blk_alloc)); exact BK203.out)) : gb217 ≠ gb203)); have n11_ := Aside0.mk ((by rw [hg]; exact Nat.ne_of_lt (blk_lt (g := gb204) (o := .cells #[.int .i64 a2_0, .int .i64 a2_1] 23 (0, 0)) (by (with_reducible repeat (first | apply blk_drewN | apply blk_drew | apply blk_alloc)); exact BK204.out)) : gb204 ≠ gb217)); have n12_ := Aside0.mk ((by rw [hg]; exact Nat.ne_of_gt (blk_lt (g := gb204) (o := .cells #[.int .i64 a2_0, .int .i64 a2_1] 23 (0, 0)) (by (with_reducible repeat (first | apply blk_drewN | apply blk_drew | apply blk_alloc)); exact BK204.out)) : gb217 ≠ gb204)); have n13_ := Aside0.mk ((by rw [hg]; exact Nat.ne_of_lt (blk_lt (g := gb205) (o := .cells #[.int .i64 0, .int .i64 0, .int .i64 0, .int .i64 0, .int .u32 0] 40 (0, 0)) (by (with_reducible repeat (first | apply blk_drewN | apply blk_drew | apply blk_alloc)); exact BK205.out)) : gb205 ≠ gb217)); have n14_ := Aside0.mk ((by rw [hg]; exact Nat.ne_of_gt (blk_lt (g := gb205) (o := .cells #[.int .i64 0, .int .i64 0, .int .i64 0, .int .i64 0, .int .u32 0] 40 (0, 0)) (by (with_reducible repeat (first | apply blk_drewN | apply blk_drew | apply blk_alloc)); exact BK205.out)) : gb217 ≠ gb205)); have n15_ := Aside0.mk ((by rw [hg]; exact Nat.ne_of_lt (blk_lt (g := gb206) (o := .cells #[.int .i64 0, .int .i64 0, .int .i64 0, .int .i64 0, .int .u32 0] 40 (0, 0)) (by (with_reducible repeat (first | apply blk_drewN | apply blk_drew | apply blk_alloc)); exact BK206.out)) : gb206 ≠ gb217)); have n16_ := Aside0.mk ((by rw [hg]; exact Nat.ne_of_gt (blk_lt (g := gb206) (o := .cells #[.int .i64 0, .int .i64 0, .int .i64 0, .int .i64 0, .int .u32 0] 40 (0, 0)) (by (with_reducible repeat (first | apply blk_drewN | apply blk_drew | apply blk_alloc)); exact BK206.out)) : gb217 ≠ gb206)); have n17_ := Aside0.mk ((by rw [hg]; exact Nat.ne_of_lt (blk_lt (g := gb216) (o := .cells #[.int .i64 0, .int .i64 0] 23 (0, 0)) (by (with_reducible repeat (first | apply blk_drewN | apply blk_drew | apply blk_alloc)); exact BK216.out)) : gb216 ≠ gb217)); have n18_ := Aside0.mk ((by rw [hg]; exact Nat.ne_of_gt (blk_lt (g := gb216) (o := .cells #[.int .i64 0, .int .i64 0] 23 (0, 0)) (by (with_reducible repeat (first | apply blk_drewN | apply blk_drew | apply blk_alloc)); exact BK216.out)) : gb217 ≠ gb216)); clear BK203; clear BK204; clear BK205; clear BK206; clear BK216; clear HB; have BK203 := n0_; have BK204 := n1_; have BK205 := n2_; have BK206 := n3_; have BK216 := n4_; have HB := n5_; have BK217 := n6_; have GW217 := n7_; have GE217 := n8_; have NB203_217 := n9_; have NB217_203 := n10_; have NB204_217 := n11_; have NB217_204 := n12_; have NB205_217 := n13_; have NB217_205 := n14_; have NB206_217 := n15_; have NB217_206 := n16_; have NB216_217 := n17_; have NB217_216 := n18_; clear n0_ n1_ n2_ n3_ n4_ n5_ n6_ n7_ n8_ n9_ n10_ n11_ n12_ n13_ n14_ n15_ n16_ n17_ n18_; clear hb hbox hg; have hnb97 := NB216_203.out; have hnc97 := NB203_216.out; have hnb98 := NB216_204.out; have hnc98 := NB204_216.out; have hnb99 := NB216_205.out; have hnc99 := NB205_216.out; have hnb100 := NB216_206.out; have hnc100 := NB206_216.out; have hnb101 := NB216_217.out; have hnc101 := NB217_216.out; have hcz102_0 : w96.cell? ⟨gb216, 0, none⟩ = some (.int .i64 0) := (blk_cell BK216.out 0).trans rfl; have hcz102_1 : w96.cell? ⟨gb216, 1, none⟩ = some (.int .i64 0) := (blk_cell BK216.out 1).trans rfl; have hfz102_0 := blk_frozen BK216.out 0; have hfz102_1 := blk_frozen BK216.out 1; have hnb103 := NB217_203.out; have hnc103 := NB203_217.out; have hnb104 := NB217_204.out; have hnc104 := NB204_217.out; have hnb105 := NB217_205.out; have hnc105 := NB205_217.out; have hnb106 := NB217_206.out; have hnc106 := NB206_217.out; have hcz107_0 : w96.cell? ⟨gb217, 0, none⟩ = some (.int .i64 0) := (blk_cell BK217.out 0).trans rfl; have hcz107_1 : w96.cell? ⟨gb217, 1, none⟩ = some (.int .i64 0) := (blk_cell BK217.out 1).trans rfl; have hfz107_0 := blk_frozen BK217.out 0; have hfz107_1 := blk_frozen BK217.out 1))
       (try simp only [Act.put, List.setIfInBounds_toArray, List.set_cons_zero, List.set_cons_succ])
       go_cut [3] (fun v3 wc => ∃ (kq : Nat) (x3_85 : Int), v3 = .int .u32 x3_85 ∧ Aside0 (perm_Split.j2 kq a1 x3_85 t207 a0_0 a0_1 a0_2 a0_3 a0_4 t211 t212 t213 t214 = some (r1, r2, r3, r4, r5, r6, r7, r8, r9, r10, r11)) ∧ Aside0 (kq ≤ kj23) ∧ Aside0 (wc.heap[gb203]? = some (.cells #[.int .i64 a0_0, .int .i64 a0_1, .int .i64 a0_2, .int .i64 a0_3, .int .u32 a0_4] 40 (0, 0))) ∧ Aside0 (wc.heap[gb204]? = some (.cells #[.int .i64 a2_0, .int .i64 a2_1] 23 (0, 0))) ∧ Aside0 (wc.heap[gb205]? = some (.cells #[.int .i64 0, .int .i64 0, .int .i64 0, .int .i64 0, .int .u32 0] 40 (0, 0))) ∧ Aside0 (wc.heap[gb206]? = some (.cells #[.int .i64 0, .int .i64 0, .int .i64 0, .int .i64 0, .int .u32 0] 40 (0, 0))) ∧ Aside0 (wc.heap[gb216]? = some (.cells #[.int .i64 t211, .int .i64 t212] 23 (0, 0))) ∧ Aside0 (wc.heap[gb217]? = some (.cells #[.int .i64 t213, .int .i64 t214] 23 (0, 0))) ∧ Aside0 (Below w.heap.size w wc))
       case first =>
        have H := HC86.out
        clear HC86
        by_cases c108 : x13_5 = true
        ·subst c108
         have H1 : (perm_Split.j2 kj23 a1 a3 t207 a0_0 a0_1 a0_2 a0_3 a0_4 t211 t212 t213 t214) = some (r1, r2, r3, r4, r5, r6, r7, r8, r9, r10, r11) := by rw [if_pos rfl] at H; exact H
         clear H
         have H := H1
         clear H1
         have H' := Aside0.mk H
         clear H
         go_wp2
         go_meet
         case rel => exact ⟨_, (a3), (by first | rfl | (simp; done) | (simp [*]; done)), H', ⟨by have := HJ5.out; have := HJ23.out; first | omega | exact Nat.le_refl _⟩, ⟨by (repeat (first | (with_reducible first | apply blk_drewN | apply blk_drew | apply blk_alloc) | refine blk_far ?_ NB203_216.out _ | refine blk_far ?_ NB203_217.out _)); exact BK203.out⟩, ⟨by (repeat (first | (with_reducible first | apply blk_drewN | apply blk_drew | apply blk_alloc) | refine blk_far ?_ NB204_216.out _ | refine blk_far ?_ NB204_217.out _)); exact BK204.out⟩, ⟨by (repeat (first | (with_reducible first | apply blk_drewN | apply blk_drew | apply blk_alloc) | refine blk_far ?_ NB205_216.out _ | refine blk_far ?_ NB205_217.out _)); exact BK205.out⟩, ⟨by (repeat (first | (with_reducible first | apply blk_drewN | apply blk_drew | apply blk_alloc) | refine blk_far ?_ NB206_216.out _ | refine blk_far ?_ NB206_217.out _)); exact BK206.out⟩, ⟨by (with_reducible repeat (first | apply blk_drewN | apply blk_drew | apply blk_alloc)); refine blk_far ?_ NB216_217.out _; (with_reducible repeat (first | apply blk_drewN | apply blk_drew | apply blk_alloc)); refine blk_far ?_ NB216_217.out _; (with_reducible repeat (first | apply blk_drewN | apply blk_drew | apply blk_alloc)); refine blk_put (cs := #[.int .i64 t211, .int .i64 0]) ?_ 1 _ rfl; (with_reducible repeat (first | apply blk_drewN | apply blk_drew | apply blk_alloc)); refine blk_put (cs := #[.int .i64 0, .int .i64 0]) ?_ 0 _ rfl; (with_reducible repeat (first | apply blk_drewN | apply blk_drew | apply blk_alloc)); exact BK216.out⟩, ⟨by (with_reducible repeat (first | apply blk_drewN | apply blk_drew | apply blk_alloc)); refine blk_put (cs := #[.int .i64 t213, .int .i64 0]) ?_ 1 _ rfl; (with_reducible repeat (first | apply blk_drewN | apply blk_drew | apply blk_alloc)); refine blk_put (cs := #[.int .i64 0, .int .i64 0]) ?_ 0 _ rfl; (repeat (first | (with_reducible first | apply blk_drewN | apply blk_drew | apply blk_alloc) | refine blk_far ?_ NB217_216.out _)); exact BK217.out⟩, ⟨by repeat (first | (with_reducible first | exact HB.out | apply below_alloc | apply pw_below_drewN | apply below_drew1 | refine below_set ?_ GE203.out | refine below_set ?_ GE204.out | refine below_set ?_ GE205.out | refine below_set ?_ GE206.out | refine below_set ?_ GE216.out | refine below_set ?_ GE217.out) | exact HB.out)⟩⟩
        ·replace c108 := Bool.eq_false_iff.mpr c108
         subst c108
         have H1 : (perm_Split.j2 kj23 a1 a0_4 t207 a0_0 a0_1 a0_2 a0_3 a0_4 t211 t212 t213 t214) = some (r1, r2, r3, r4, r5, r6, r7, r8, r9, r10, r11) := by rw [if_neg (show ¬ (false = true) by decide)] at H; exact H
         clear H
         have H := H1
         clear H1
         have H' := Aside0.mk H
         clear H
         have hnb109 := NB203_204.out
         have hnc109 := NB204_203.out
         have hnb110 := NB203_205.out
         have hnc110 := NB205_203.out
         have hnb111 := NB203_206.out
         have hnc111 := NB206_203.out
         have hnb112 := NB203_216.out
         have hnc112 := NB216_203.out
         have hnb113 := NB203_217.out
         have hnc113 := NB217_203.out
         have hcz114_0 : w96.cell? ⟨gb203, 0, none⟩ = some (.int .i64 a0_0) := (blk_cell BK203.out 0).trans rfl
         have hcz114_1 : w96.cell? ⟨gb203, 1, none⟩ = some (.int .i64 a0_1) := (blk_cell BK203.out 1).trans rfl
         have hcz114_2 : w96.cell? ⟨gb203, 2, none⟩ = some (.int .i64 a0_2) := (blk_cell BK203.out 2).trans rfl
         have hcz114_3 : w96.cell? ⟨gb203, 3, none⟩ = some (.int .i64 a0_3) := (blk_cell BK203.out 3).trans rfl
         have hcz114_4 : w96.cell? ⟨gb203, 4, none⟩ = some (.int .u32 a0_4) := (blk_cell BK203.out 4).trans rfl
         have hfz114_0 := blk_frozen BK203.out 0
         have hfz114_1 := blk_frozen BK203.out 1
         have hfz114_2 := blk_frozen BK203.out 2
         have hfz114_3 := blk_frozen BK203.out 3
         have hfz114_4 := blk_frozen BK203.out 4
         go_wp2
         go_meet
         case rel => exact ⟨_, (a0_4), (by first | rfl | (simp; done) | (simp [*]; done)), H', ⟨by have := HJ5.out; have := HJ23.out; first | omega | exact Nat.le_refl _⟩, ⟨by (repeat (first | (with_reducible first | apply blk_drewN | apply blk_drew | apply blk_alloc) | refine blk_far ?_ NB203_216.out _ | refine blk_far ?_ NB203_217.out _)); exact BK203.out⟩, ⟨by (repeat (first | (with_reducible first | apply blk_drewN | apply blk_drew | apply blk_alloc) | refine blk_far ?_ NB204_216.out _ | refine blk_far ?_ NB204_217.out _)); exact BK204.out⟩, ⟨by (repeat (first | (with_reducible first | apply blk_drewN | apply blk_drew | apply blk_alloc) | refine blk_far ?_ NB205_216.out _ | refine blk_far ?_ NB205_217.out _)); exact BK205.out⟩, ⟨by (repeat (first | (with_reducible first | apply blk_drewN | apply blk_drew | apply blk_alloc) | refine blk_far ?_ NB206_216.out _ | refine blk_far ?_ NB206_217.out _)); exact BK206.out⟩, ⟨by (with_reducible repeat (first | apply blk_drewN | apply blk_drew | apply blk_alloc)); refine blk_far ?_ NB216_217.out _; (with_reducible repeat (first | apply blk_drewN | apply blk_drew | apply blk_alloc)); refine blk_far ?_ NB216_217.out _; (with_reducible repeat (first | apply blk_drewN | apply blk_drew | apply blk_alloc)); refine blk_put (cs := #[.int .i64 t211, .int .i64 0]) ?_ 1 _ rfl; (with_reducible repeat (first | apply blk_drewN | apply blk_drew | apply blk_alloc)); refine blk_put (cs := #[.int .i64 0, .int .i64 0]) ?_ 0 _ rfl; (with_reducible repeat (first | apply blk_drewN | apply blk_drew | apply blk_alloc)); exact BK216.out⟩, ⟨by (with_reducible repeat (first | apply blk_drewN | apply blk_drew | apply blk_alloc)); refine blk_put (cs := #[.int .i64 t213, .int .i64 0]) ?_ 1 _ rfl; (with_reducible repeat (first | apply blk_drewN | apply blk_drew | apply blk_alloc)); refine blk_put (cs := #[.int .i64 0, .int .i64 0]) ?_ 0 _ rfl; (repeat (first | (with_reducible first | apply blk_drewN | apply blk_drew | apply blk_alloc) | refine blk_far ?_ NB217_216.out _)); exact BK217.out⟩, ⟨by repeat (first | (with_reducible first | exact HB.out | apply below_alloc | apply pw_below_drewN | apply below_drew1 | refine below_set ?_ GE203.out | refine below_set ?_ GE204.out | refine below_set ?_ GE205.out | refine below_set ?_ GE206.out | refine below_set ?_ GE216.out | refine below_set ?_ GE217.out) | exact HB.out)⟩⟩
       case rest =>
        clear HC86
        (try clear c1); (try clear c2); (try clear p2); (try clear c3); (try clear c4); (try clear c5); (try clear c6); (try clear c7); (try clear c8); (try clear c9); (try clear c10); (try clear c11); (try clear c12); (try clear c13); (try clear c15); (try clear c15b0); (try clear c15b1); (try clear c16); (try clear c17); (try clear c18); (try clear c20); (try clear c21); (try clear c22); (try clear c23); (try clear c25); (try clear c27); (try clear c29); (try clear c30); (try clear c30b0); (try clear c31); (try clear c32); (try clear c33); (try clear c36); (try clear c37); (try clear c38); (try clear c39); (try clear c41); (try clear c41b0); (try clear c42); (try clear c43); (try clear c44); (try clear c47); (try clear c48); (try clear c52); (try clear c53); (try clear c54); (try clear c57); (try clear c58); (try clear c62); (try clear c63); (try clear c64); (try clear c67); (try clear c68); (try clear c71); (try clear c72); (try clear c73); (try clear c76); (try clear c77); (try clear c78); (try clear c79); (try clear c81); (try clear c82); (try clear c85); (try clear c85b0); (try clear c85b1); (try clear c87); (try clear c88); (try clear c89); (try clear c91); (try clear c92); (try clear c97); (try clear c98); (try clear c99); (try clear c100); (try clear c101); (try clear c103); (try clear c104); (try clear c105); (try clear c106); (try clear c108); (try clear c109); (try clear c110); (try clear c111); (try clear c112); (try clear c113); (try clear hcz102_0); (try clear hcz102_1); (try clear hcz107_0); (try clear hcz107_1); (try clear hcz114_0); (try clear hcz114_1); (try clear hcz114_2); (try clear hcz114_3); (try clear hcz114_4); (try clear hcz14_0); (try clear hcz14_1); (try clear hcz14_2); (try clear hcz14_3); (try clear hcz14_4); (try clear hcz19_0); (try clear hcz19_1); (try clear hcz19_2); (try clear hcz19_3); (try clear hcz19_4); (try clear hcz23_0); (try clear hcz23_1); (try clear hcz23_2); (try clear hcz23_3); (try clear hcz23_4); (try clear hcz34_0); (try clear hcz34_1); (try clear hcz34_2); (try clear hcz34_3); (try clear hcz34_4); (try clear hcz38_0); (try clear hcz38_1); (try clear hcz40_0); (try clear hcz40_1); (try clear hcz45_0); (try clear hcz45_1); (try clear hcz45_2); (try clear hcz45_3); (try clear hcz45_4); (try clear hcz49_0); (try clear hcz49_1); (try clear hcz51_0); (try clear hcz51_1); (try clear hcz55_0); (try clear hcz55_1); (try clear hcz55_2); (try clear hcz55_3); (try clear hcz55_4); (try clear hcz59_0); (try clear hcz59_1); (try clear hcz61_0); (try clear hcz61_1); (try clear hcz65_0); (try clear hcz65_1); (try clear hcz65_2); (try clear hcz65_3); (try clear hcz65_4); (try clear hcz69_0); (try clear hcz69_1); (try clear hcz74_0); (try clear hcz74_1); (try clear hcz74_2); (try clear hcz74_3); (try clear hcz74_4); (try clear hcz80_0); (try clear hcz80_1); (try clear hcz80_2); (try clear hcz80_3); (try clear hcz80_4); (try clear hcz83_0); (try clear hcz83_1); (try clear hcz83_2); (try clear hcz83_3); (try clear hcz83_4); (try clear hcz90_0); (try clear hcz90_1); (try clear hcz90_2); (try clear hcz90_3); (try clear hcz90_4); (try clear hcz93_0); (try clear hcz93_1); (try clear hfz102_0); (try clear hfz102_1); (try clear hfz107_0); (try clear hfz107_1); (try clear hfz114_0); (try clear hfz114_1); (try clear hfz114_2); (try clear hfz114_3); (try clear hfz114_4); (try clear hfz14_0); (try clear hfz14_1); (try clear hfz14_2); (try clear hfz14_3); (try clear hfz14_4); (try clear hfz19_0); (try clear hfz19_1); (try clear hfz19_2); (try clear hfz19_3); (try clear hfz19_4); (try clear hfz23_0); (try clear hfz23_1); (try clear hfz23_2); (try clear hfz23_3); (try clear hfz23_4); (try clear hfz34_0); (try clear hfz34_1); (try clear hfz34_2); (try clear hfz34_3); (try clear hfz34_4); (try clear hfz38_0); (try clear hfz38_1); (try clear hfz40_0); (try clear hfz40_1); (try clear hfz45_0); (try clear hfz45_1); (try clear hfz45_2); (try clear hfz45_3); (try clear hfz45_4); (try clear hfz49_0); (try clear hfz49_1); (try clear hfz51_0); (try clear hfz51_1); (try clear hfz55_0); (try clear hfz55_1); (try clear hfz55_2); (try clear hfz55_3); (try clear hfz55_4); (try clear hfz59_0); (try clear hfz59_1); (try clear hfz61_0); (try clear hfz61_1); (try clear hfz65_0); (try clear hfz65_1); (try clear hfz65_2); (try clear hfz65_3); (try clear hfz65_4); (try clear hfz69_0); (try clear hfz69_1); (try clear hfz74_0); (try clear hfz74_1); (try clear hfz74_2); (try clear hfz74_3); (try clear hfz74_4); (try clear hfz80_0); (try clear hfz80_1); (try clear hfz80_2); (try clear hfz80_3); (try clear hfz80_4); (try clear hfz83_0); (try clear hfz83_1); (try clear hfz83_2); (try clear hfz83_3); (try clear hfz83_4); (try clear hfz90_0); (try clear hfz90_1); (try clear hfz90_2); (try clear hfz90_3); (try clear hfz90_4); (try clear hfz93_0); (try clear hfz93_1); (try clear p2)
        obtain ⟨kq, x3_85, rfl, HA, HJ85, BK203, BK204, BK205, BK206, BK216, BK217, HB⟩ := hcut
        cases kq with
        | zero => exact absurd HA.out (by simp [perm_Split.j2])
        | succ kj85 =>
         have H := HA.out
         clear HA
         simp only [perm_Split.j2] at H
         simp only [Option.some.injEq, Prod.mk.injEq] at H
         obtain ⟨rfl, rfl, rfl, rfl, rfl, rfl, rfl, rfl, rfl, rfl, rfl⟩ := H
         try go_wp2
         have n0_ := Aside0.mk (blk_drew BK203.out)
         have n1_ := Aside0.mk (blk_drew BK204.out)
         have n2_ := Aside0.mk (blk_drew BK205.out)
         have n3_ := Aside0.mk (blk_drew BK206.out)
         have n4_ := Aside0.mk (blk_drew BK216.out)
         have n5_ := Aside0.mk (blk_drew BK217.out)
         have n6_ := Aside0.mk (below_drew1 HB.out)
         clear BK203
         clear BK204
         clear BK205
         clear BK206
         clear BK216
         clear BK217
         clear HB
         have BK203 := n0_
         have BK204 := n1_
         have BK205 := n2_
         have BK206 := n3_
         have BK216 := n4_
         have BK217 := n5_
         have HB := n6_
         clear n0_ n1_ n2_ n3_ n4_ n5_ n6_
         refine start_ (n := 15) (S := fun w' => w'.cell? ⟨gb216, 0, none⟩ = some (.int .i64 t211) ∧ w'.cell? ⟨gb216, 1, none⟩ = some (.int .i64 t212) ∧ w'.cell? ⟨gb203, 0, none⟩ = some (.int .i64 a0_0) ∧ w'.cell? ⟨gb203, 1, none⟩ = some (.int .i64 a0_1) ∧ w'.cell? ⟨gb203, 2, none⟩ = some (.int .i64 a0_2) ∧ w'.cell? ⟨gb203, 3, none⟩ = some (.int .i64 a0_3) ∧ w'.cell? ⟨gb203, 4, none⟩ = some (.int .u32 a0_4) ∧ w'.cell? ⟨gb217, 0, none⟩ = some (.int .i64 t213) ∧ w'.cell? ⟨gb217, 1, none⟩ = some (.int .i64 t214)) (ds := []) #[false, false, false, false, false, false, false, false, false, false, false, false, false, false, false] (by kernel_rfl) rfl rfl ⟨(blk_cell BK216.out 0).trans rfl, (blk_cell BK216.out 1).trans rfl, (blk_cell BK203.out 0).trans rfl, (blk_cell BK203.out 1).trans rfl, (blk_cell BK203.out 2).trans rfl, (blk_cell BK203.out 3).trans rfl, (blk_cell BK203.out 4).trans rfl, (blk_cell BK217.out 0).trans rfl, (blk_cell BK217.out 1).trans rfl⟩ (fun hHeld => ?_); refine with_tabW perm_Split.tab10 perm_Split.bits10 (fun HT_ HW_ => ?_)
         generalize wc.drew = w115 at BK203 BK204 BK205 BK206 BK216 BK217 HB hHeld ⊢
         refine pure_ (i := 0) (N := some 81) (v := ?_) (a' := ?_) #[true, false, false, false, false, false, false, false, false, false, false, false, false, false, false] rfl rfl (any_of HT_.out (by kernel_rfl)) (fun _ _ _ h => h) (Or.inl ⟨by rfl, ?_⟩) ?_ ?_
         rotate_left
         ·intro w'
          go_simp
          with_reducible rfl
         rotate_left
         ·simp only [Act.put, List.setIfInBounds_toArray, List.set_cons_zero, List.set_cons_succ, i64_w, i32_w]
          rfl
         refine pure_ (i := 2) (N := some 83) (v := ?_) (a' := ?_) #[true, false, true, false, false, false, false, false, false, false, false, false, false, false, false] rfl rfl (any_of HT_.out (by kernel_rfl)) (fun _ _ _ h => h) (Or.inl ⟨by rfl, ?_⟩) ?_ ?_
         rotate_left
         ·intro w'
          go_simp
          with_reducible rfl
         rotate_left
         ·simp only [Act.put, List.setIfInBounds_toArray, List.set_cons_zero, List.set_cons_succ, i64_w, i32_w]
          rfl
         refine pure_ (i := 4) (N := some 85) (v := ?_) (a' := ?_) #[true, false, true, false, true, false, false, false, false, false, false, false, false, false, false] rfl rfl (any_of HT_.out (by kernel_rfl)) (fun _ _ _ h => h) (Or.inl ⟨by rfl, ?_⟩) ?_ ?_
         rotate_left
         ·intro w'
          go_simp
          with_reducible rfl
         rotate_left
         ·simp only [Act.put, List.setIfInBounds_toArray, List.set_cons_zero, List.set_cons_succ, i64_w, i32_w]
          rfl
         refine pure_ (i := 6) (N := some 87) (v := ?_) (a' := ?_) #[true, false, true, false, true, false, true, false, false, false, false, false, false, false, false] rfl rfl (any_of HT_.out (by kernel_rfl)) (fun _ _ _ h => h) (Or.inl ⟨by rfl, ?_⟩) ?_ ?_
         rotate_left
         ·intro w'
          go_simp
          with_reducible rfl
         rotate_left
         ·simp only [Act.put, List.setIfInBounds_toArray, List.set_cons_zero, List.set_cons_succ, i64_w, i32_w]
          rfl
         refine pure_ (i := 8) (N := some 89) (v := ?_) (a' := ?_) #[true, false, true, false, true, false, true, false, true, false, false, false, false, false, false] rfl rfl (any_of HT_.out (by kernel_rfl)) (fun _ _ _ h => h) (Or.inl ⟨by rfl, ?_⟩) ?_ ?_
         rotate_left
         ·intro w'
          go_simp
          with_reducible rfl
         rotate_left
         ·simp only [Act.put, List.setIfInBounds_toArray, List.set_cons_zero, List.set_cons_succ, i64_w, i32_w]
          rfl
         refine pure_ (i := 10) (N := some 91) (v := ?_) (a' := ?_) #[true, false, true, false, true, false, true, false, true, false, true, false, false, false, false] rfl rfl (any_of HT_.out (by kernel_rfl)) (fun _ _ _ h => h) (Or.inl ⟨by rfl, ?_⟩) ?_ ?_
         rotate_left
         ·intro w'
          go_simp
          with_reducible rfl
         rotate_left
         ·simp only [Act.put, List.setIfInBounds_toArray, List.set_cons_zero, List.set_cons_succ, i64_w, i32_w]
          rfl
         refine take_ (i := 1) (N := some 82) (v := ?_) (a' := ?_) #[true, true, true, false, true, false, true, false, true, false, true, false, false, false, false] rfl rfl (take_ofW HT_.out HW_.out (by kernel_rfl)) (fun _ _ _ h => h) (Or.inl ⟨by rfl, ?_⟩) hHeld ?_ ?_
         rotate_left
         ·rintro w' ⟨s0, s1, s2, s3, s4, s5, s6, s7, s8⟩
          go_simp
          with_reducible rfl
         rotate_left
         ·simp only [Act.put, List.setIfInBounds_toArray, List.set_cons_zero, List.set_cons_succ, i64_w, i32_w]
          rfl
         refine take_ (i := 3) (N := some 84) (v := ?_) (a' := ?_) #[true, true, true, true, true, false, true, false, true, false, true, false, false, false, false] rfl rfl (take_ofW HT_.out HW_.out (by kernel_rfl)) (fun _ _ _ h => h) (Or.inl ⟨by rfl, ?_⟩) hHeld ?_ ?_
         rotate_left
         ·rintro w' ⟨s0, s1, s2, s3, s4, s5, s6, s7, s8⟩
          go_simp
          with_reducible rfl
         rotate_left
         ·simp only [Act.put, List.setIfInBounds_toArray, List.set_cons_zero, List.set_cons_succ, i64_w, i32_w]
          rfl
         refine pure_ (i := 5) (N := some 86) (v := ?_) (a' := ?_) #[true, true, true, true, true, true, true, false, true, false, true, false, false, false, false] rfl rfl (any_of HT_.out (by kernel_rfl)) (fun _ _ _ h => h) (Or.inl ⟨by rfl, ?_⟩) ?_ ?_
         rotate_left
         ·intro w'
          go_simp
          with_reducible rfl
         rotate_left
         ·simp only [Act.put, List.setIfInBounds_toArray, List.set_cons_zero, List.set_cons_succ, i64_w, i32_w]
          rfl
         refine take_ (i := 7) (N := some 88) (v := ?_) (a' := ?_) #[true, true, true, true, true, true, true, true, true, false, true, false, false, false, false] rfl rfl (take_ofW HT_.out HW_.out (by kernel_rfl)) (fun _ _ _ h => h) (Or.inl ⟨by rfl, ?_⟩) hHeld ?_ ?_
         rotate_left
         ·rintro w' ⟨s0, s1, s2, s3, s4, s5, s6, s7, s8⟩
          go_simp
          with_reducible rfl
         rotate_left
         ·simp only [Act.put, List.setIfInBounds_toArray, List.set_cons_zero, List.set_cons_succ, i64_w, i32_w]
          rfl
         refine take_ (i := 9) (N := some 90) (v := ?_) (a' := ?_) #[true, true, true, true, true, true, true, true, true, true, true, false, false, false, false] rfl rfl (take_ofW HT_.out HW_.out (by kernel_rfl)) (fun _ _ _ h => h) (Or.inl ⟨by rfl, ?_⟩) hHeld ?_ ?_
         rotate_left
         ·rintro w' ⟨s0, s1, s2, s3, s4, s5, s6, s7, s8⟩
          go_simp
          with_reducible rfl
         rotate_left
         ·simp only [Act.put, List.setIfInBounds_toArray, List.set_cons_zero, List.set_cons_succ, i64_w, i32_w]
          rfl
         refine pure_ (i := 11) (N := some 92) (v := ?_) (a' := ?_) #[true, true, true, true, true, true, true, true, true, true, true, true, false, false, false] rfl rfl (any_of HT_.out (by kernel_rfl)) (fun _ _ _ h => h) (Or.inl ⟨by rfl, ?_⟩) ?_ ?_
         rotate_left
         ·intro w'
          go_simp
          with_reducible rfl
         rotate_left
         ·simp only [Act.put, List.setIfInBounds_toArray, List.set_cons_zero, List.set_cons_succ, i64_w, i32_w]
          rfl
         refine one_ (i := 12) (N := none) #[true, true, true, true, true, true, true, true, true, true, true, true, true, false, false] rfl rfl (one_of HT_.out (by kernel_rfl)) (by decide) (fun K hK => ?_)
         have hs116 : w115.cell? ⟨gb205, 0, none⟩ = some (.int .i64 0) := (blk_cell BK205.out 0).trans rfl
         have hfs116 := blk_frozen BK205.out 0
         have hns116_0 := NB203_205.out
         have hns116_1 := NB204_205.out
         have hns116_3 := NB206_205.out
         have hns116_4 := NB216_205.out
         have hns116_5 := NB217_205.out
         have hms116_0 := NB205_203.out
         have hms116_1 := NB205_204.out
         have hms116_3 := NB205_206.out
         have hms116_4 := NB205_216.out
         have hms116_5 := NB205_217.out
         have hs117 : w115.cell? ⟨gb205, 1, none⟩ = some (.int .i64 0) := (blk_cell BK205.out 1).trans rfl
         have hfs117 := blk_frozen BK205.out 1
         have hns117_0 := NB203_205.out
         have hns117_1 := NB204_205.out
         have hns117_3 := NB206_205.out
         have hns117_4 := NB216_205.out
         have hns117_5 := NB217_205.out
         have hms117_0 := NB205_203.out
         have hms117_1 := NB205_204.out
         have hms117_3 := NB205_206.out
         have hms117_4 := NB205_216.out
         have hms117_5 := NB205_217.out
         have hs118 : w115.cell? ⟨gb205, 2, none⟩ = some (.int .i64 0) := (blk_cell BK205.out 2).trans rfl
         have hfs118 := blk_frozen BK205.out 2
         have hns118_0 := NB203_205.out
         have hns118_1 := NB204_205.out
         have hns118_3 := NB206_205.out
         have hns118_4 := NB216_205.out
         have hns118_5 := NB217_205.out
         have hms118_0 := NB205_203.out
         have hms118_1 := NB205_204.out
         have hms118_3 := NB205_206.out
         have hms118_4 := NB205_216.out
         have hms118_5 := NB205_217.out
         have hs119 : w115.cell? ⟨gb205, 3, none⟩ = some (.int .i64 0) := (blk_cell BK205.out 3).trans rfl
         have hfs119 := blk_frozen BK205.out 3
         have hns119_0 := NB203_205.out
         have hns119_1 := NB204_205.out
         have hns119_3 := NB206_205.out
         have hns119_4 := NB216_205.out
         have hns119_5 := NB217_205.out
         have hms119_0 := NB205_203.out
         have hms119_1 := NB205_204.out
         have hms119_3 := NB205_206.out
         have hms119_4 := NB205_216.out
         have hms119_5 := NB205_217.out
         have hs120 : w115.cell? ⟨gb205, 4, none⟩ = some (.int .u32 0) := (blk_cell BK205.out 4).trans rfl
         have hfs120 := blk_frozen BK205.out 4
         have hns120_0 := NB203_205.out
         have hns120_1 := NB204_205.out
         have hns120_3 := NB206_205.out
         have hns120_4 := NB216_205.out
         have hns120_5 := NB217_205.out
         have hms120_0 := NB205_203.out
         have hms120_1 := NB205_204.out
         have hms120_3 := NB205_206.out
         have hms120_4 := NB205_216.out
         have hms120_5 := NB205_217.out
         refine skip_ (w1 := ?_) (by rfl) rfl ?_ ?_
         rotate_left
         ·go_simp
          rfl
         refine hK.out _ _ ⟨((cell_far (p := ⟨gb205, _, none⟩) NB216_205.out _).trans (((cell_far (p := ⟨gb205, _, none⟩) NB216_205.out _).trans (((cell_far (p := ⟨gb205, _, none⟩) NB216_205.out _).trans (((cell_far (p := ⟨gb205, _, none⟩) NB216_205.out _).trans (((cell_far (p := ⟨gb205, _, none⟩) NB216_205.out _).trans (hHeld.1)))))))))), ((cell_far (p := ⟨gb205, _, none⟩) NB216_205.out _).trans (((cell_far (p := ⟨gb205, _, none⟩) NB216_205.out _).trans (((cell_far (p := ⟨gb205, _, none⟩) NB216_205.out _).trans (((cell_far (p := ⟨gb205, _, none⟩) NB216_205.out _).trans (((cell_far (p := ⟨gb205, _, none⟩) NB216_205.out _).trans (hHeld.2.1)))))))))), ((cell_far (p := ⟨gb205, _, none⟩) NB203_205.out _).trans (((cell_far (p := ⟨gb205, _, none⟩) NB203_205.out _).trans (((cell_far (p := ⟨gb205, _, none⟩) NB203_205.out _).trans (((cell_far (p := ⟨gb205, _, none⟩) NB203_205.out _).trans (((cell_far (p := ⟨gb205, _, none⟩) NB203_205.out _).trans (hHeld.2.2.1)))))))))), ((cell_far (p := ⟨gb205, _, none⟩) NB203_205.out _).trans (((cell_far (p := ⟨gb205, _, none⟩) NB203_205.out _).trans (((cell_far (p := ⟨gb205, _, none⟩) NB203_205.out _).trans (((cell_far (p := ⟨gb205, _, none⟩) NB203_205.out _).trans (((cell_far (p := ⟨gb205, _, none⟩) NB203_205.out _).trans (hHeld.2.2.2.1)))))))))), ((cell_far (p := ⟨gb205, _, none⟩) NB203_205.out _).trans (((cell_far (p := ⟨gb205, _, none⟩) NB203_205.out _).trans (((cell_far (p := ⟨gb205, _, none⟩) NB203_205.out _).trans (((cell_far (p := ⟨gb205, _, none⟩) NB203_205.out _).trans (((cell_far (p := ⟨gb205, _, none⟩) NB203_205.out _).trans (hHeld.2.2.2.2.1)))))))))), ((cell_far (p := ⟨gb205, _, none⟩) NB203_205.out _).trans (((cell_far (p := ⟨gb205, _, none⟩) NB203_205.out _).trans (((cell_far (p := ⟨gb205, _, none⟩) NB203_205.out _).trans (((cell_far (p := ⟨gb205, _, none⟩) NB203_205.out _).trans (((cell_far (p := ⟨gb205, _, none⟩) NB203_205.out _).trans (hHeld.2.2.2.2.2.1)))))))))), ((cell_far (p := ⟨gb205, _, none⟩) NB203_205.out _).trans (((cell_far (p := ⟨gb205, _, none⟩) NB203_205.out _).trans (((cell_far (p := ⟨gb205, _, none⟩) NB203_205.out _).trans (((cell_far (p := ⟨gb205, _, none⟩) NB203_205.out _).trans (((cell_far (p := ⟨gb205, _, none⟩) NB203_205.out _).trans (hHeld.2.2.2.2.2.2.1)))))))))), ((cell_far (p := ⟨gb205, _, none⟩) NB217_205.out _).trans (((cell_far (p := ⟨gb205, _, none⟩) NB217_205.out _).trans (((cell_far (p := ⟨gb205, _, none⟩) NB217_205.out _).trans (((cell_far (p := ⟨gb205, _, none⟩) NB217_205.out _).trans (((cell_far (p := ⟨gb205, _, none⟩) NB217_205.out _).trans (hHeld.2.2.2.2.2.2.2.1)))))))))), ((cell_far (p := ⟨gb205, _, none⟩) NB217_205.out _).trans (((cell_far (p := ⟨gb205, _, none⟩) NB217_205.out _).trans (((cell_far (p := ⟨gb205, _, none⟩) NB217_205.out _).trans (((cell_far (p := ⟨gb205, _, none⟩) NB217_205.out _).trans (((cell_far (p := ⟨gb205, _, none⟩) NB217_205.out _).trans (hHeld.2.2.2.2.2.2.2.2))))))))))⟩ (fun hHeld => ?_)
         clear hK K
         refine one_ (i := 13) (N := none) #[true, true, true, true, true, true, true, true, true, true, true, true, true, true, false] rfl rfl (one_of HT_.out (by kernel_rfl)) (by decide) (fun K hK => ?_)
         have hs121 : w115.cell? ⟨gb206, 0, none⟩ = some (.int .i64 0) := (blk_cell BK206.out 0).trans rfl
         have hfs121 := blk_frozen BK206.out 0
         have hns121_0 := NB203_206.out
         have hns121_1 := NB204_206.out
         have hns121_2 := NB205_206.out
         have hns121_4 := NB216_206.out
         have hns121_5 := NB217_206.out
         have hms121_0 := NB206_203.out
         have hms121_1 := NB206_204.out
         have hms121_2 := NB206_205.out
         have hms121_4 := NB206_216.out
         have hms121_5 := NB206_217.out
         have hs122 : w115.cell? ⟨gb206, 1, none⟩ = some (.int .i64 0) := (blk_cell BK206.out 1).trans rfl
         have hfs122 := blk_frozen BK206.out 1
         have hns122_0 := NB203_206.out
         have hns122_1 := NB204_206.out
         have hns122_2 := NB205_206.out
         have hns122_4 := NB216_206.out
         have hns122_5 := NB217_206.out
         have hms122_0 := NB206_203.out
         have hms122_1 := NB206_204.out
         have hms122_2 := NB206_205.out
         have hms122_4 := NB206_216.out
         have hms122_5 := NB206_217.out
         have hs123 : w115.cell? ⟨gb206, 2, none⟩ = some (.int .i64 0) := (blk_cell BK206.out 2).trans rfl
         have hfs123 := blk_frozen BK206.out 2
         have hns123_0 := NB203_206.out
         have hns123_1 := NB204_206.out
         have hns123_2 := NB205_206.out
         have hns123_4 := NB216_206.out
         have hns123_5 := NB217_206.out
         have hms123_0 := NB206_203.out
         have hms123_1 := NB206_204.out
         have hms123_2 := NB206_205.out
         have hms123_4 := NB206_216.out
         have hms123_5 := NB206_217.out
         have hs124 : w115.cell? ⟨gb206, 3, none⟩ = some (.int .i64 0) := (blk_cell BK206.out 3).trans rfl
         have hfs124 := blk_frozen BK206.out 3
         have hns124_0 := NB203_206.out
         have hns124_1 := NB204_206.out
         have hns124_2 := NB205_206.out
         have hns124_4 := NB216_206.out
         have hns124_5 := NB217_206.out
         have hms124_0 := NB206_203.out
         have hms124_1 := NB206_204.out
         have hms124_2 := NB206_205.out
         have hms124_4 := NB206_216.out
         have hms124_5 := NB206_217.out
         have hs125 : w115.cell? ⟨gb206, 4, none⟩ = some (.int .u32 0) := (blk_cell BK206.out 4).trans rfl
         have hfs125 := blk_frozen BK206.out 4
         have hns125_0 := NB203_206.out
         have hns125_1 := NB204_206.out
         have hns125_2 := NB205_206.out
         have hns125_4 := NB216_206.out
         have hns125_5 := NB217_206.out
         have hms125_0 := NB206_203.out
         have hms125_1 := NB206_204.out
         have hms125_2 := NB206_205.out
         have hms125_4 := NB206_216.out
         have hms125_5 := NB206_217.out
         refine skip_ (w1 := ?_) (by rfl) rfl ?_ ?_
         rotate_left
         ·go_simp
          rfl
         refine hK.out _ _ ⟨((cell_far (p := ⟨gb206, _, none⟩) NB216_206.out _).trans (((cell_far (p := ⟨gb206, _, none⟩) NB216_206.out _).trans (((cell_far (p := ⟨gb206, _, none⟩) NB216_206.out _).trans (((cell_far (p := ⟨gb206, _, none⟩) NB216_206.out _).trans (((cell_far (p := ⟨gb206, _, none⟩) NB216_206.out _).trans (hHeld.1)))))))))), ((cell_far (p := ⟨gb206, _, none⟩) NB216_206.out _).trans (((cell_far (p := ⟨gb206, _, none⟩) NB216_206.out _).trans (((cell_far (p := ⟨gb206, _, none⟩) NB216_206.out _).trans (((cell_far (p := ⟨gb206, _, none⟩) NB216_206.out _).trans (((cell_far (p := ⟨gb206, _, none⟩) NB216_206.out _).trans (hHeld.2.1)))))))))), ((cell_far (p := ⟨gb206, _, none⟩) NB203_206.out _).trans (((cell_far (p := ⟨gb206, _, none⟩) NB203_206.out _).trans (((cell_far (p := ⟨gb206, _, none⟩) NB203_206.out _).trans (((cell_far (p := ⟨gb206, _, none⟩) NB203_206.out _).trans (((cell_far (p := ⟨gb206, _, none⟩) NB203_206.out _).trans (hHeld.2.2.1)))))))))), ((cell_far (p := ⟨gb206, _, none⟩) NB203_206.out _).trans (((cell_far (p := ⟨gb206, _, none⟩) NB203_206.out _).trans (((cell_far (p := ⟨gb206, _, none⟩) NB203_206.out _).trans (((cell_far (p := ⟨gb206, _, none⟩) NB203_206.out _).trans (((cell_far (p := ⟨gb206, _, none⟩) NB203_206.out _).trans (hHeld.2.2.2.1)))))))))), ((cell_far (p := ⟨gb206, _, none⟩) NB203_206.out _).trans (((cell_far (p := ⟨gb206, _, none⟩) NB203_206.out _).trans (((cell_far (p := ⟨gb206, _, none⟩) NB203_206.out _).trans (((cell_far (p := ⟨gb206, _, none⟩) NB203_206.out _).trans (((cell_far (p := ⟨gb206, _, none⟩) NB203_206.out _).trans (hHeld.2.2.2.2.1)))))))))), ((cell_far (p := ⟨gb206, _, none⟩) NB203_206.out _).trans (((cell_far (p := ⟨gb206, _, none⟩) NB203_206.out _).trans (((cell_far (p := ⟨gb206, _, none⟩) NB203_206.out _).trans (((cell_far (p := ⟨gb206, _, none⟩) NB203_206.out _).trans (((cell_far (p := ⟨gb206, _, none⟩) NB203_206.out _).trans (hHeld.2.2.2.2.2.1)))))))))), ((cell_far (p := ⟨gb206, _, none⟩) NB203_206.out _).trans (((cell_far (p := ⟨gb206, _, none⟩) NB203_206.out _).trans (((cell_far (p := ⟨gb206, _, none⟩) NB203_206.out _).trans (((cell_far (p := ⟨gb206, _, none⟩) NB203_206.out _).trans (((cell_far (p := ⟨gb206, _, none⟩) NB203_206.out _).trans (hHeld.2.2.2.2.2.2.1)))))))))), ((cell_far (p := ⟨gb206, _, none⟩) NB217_206.out _).trans (((cell_far (p := ⟨gb206, _, none⟩) NB217_206.out _).trans (((cell_far (p := ⟨gb206, _, none⟩) NB217_206.out _).trans (((cell_far (p := ⟨gb206, _, none⟩) NB217_206.out _).trans (((cell_far (p := ⟨gb206, _, none⟩) NB217_206.out _).trans (hHeld.2.2.2.2.2.2.2.1)))))))))), ((cell_far (p := ⟨gb206, _, none⟩) NB217_206.out _).trans (((cell_far (p := ⟨gb206, _, none⟩) NB217_206.out _).trans (((cell_far (p := ⟨gb206, _, none⟩) NB217_206.out _).trans (((cell_far (p := ⟨gb206, _, none⟩) NB217_206.out _).trans (((cell_far (p := ⟨gb206, _, none⟩) NB217_206.out _).trans (hHeld.2.2.2.2.2.2.2.2))))))))))⟩ (fun hHeld => ?_)
         clear hK K
         refine pure_ (i := 14) (N := some 10) (v := ?_) (a' := ?_) #[true, true, true, true, true, true, true, true, true, true, true, true, true, true, true] rfl rfl (any_of HT_.out (by kernel_rfl)) (fun _ _ _ h => h) (Or.inl ⟨by rfl, ?_⟩) ?_ ?_
         rotate_left
         ·intro w'
          go_simp
          with_reducible rfl
         rotate_left
         ·simp only [Act.put, List.setIfInBounds_toArray, List.set_cons_zero, List.set_cons_succ, i64_w, i32_w]
          rfl
         refine done_ (done_of HT_.out (by kernel_rfl)) ?_
         try go_wp2
         refine bodyPost_ret (results_list (rs := [.cell 8 40, .cell 9 40, .tmp 10]) rfl (by simp) (.cell gb205 40 #[.int .i64 t207, .int .i64 t211, .int .i64 t212, .int .i64 a0_3, .int .u32 x3_85] (0, 0) _ rfl (by (with_reducible repeat (first | apply blk_drewN | apply blk_drew | apply blk_alloc)); refine blk_far ?_ NB205_206.out _; (with_reducible repeat (first | apply blk_drewN | apply blk_drew | apply blk_alloc)); refine blk_far ?_ NB205_206.out _; (with_reducible repeat (first | apply blk_drewN | apply blk_drew | apply blk_alloc)); refine blk_far ?_ NB205_206.out _; (with_reducible repeat (first | apply blk_drewN | apply blk_drew | apply blk_alloc)); refine blk_far ?_ NB205_206.out _; (with_reducible repeat (first | apply blk_drewN | apply blk_drew | apply blk_alloc)); refine blk_far ?_ NB205_206.out _; (with_reducible repeat (first | apply blk_drewN | apply blk_drew | apply blk_alloc)); refine blk_put (cs := #[.int .i64 t207, .int .i64 t211, .int .i64 t212, .int .i64 a0_3, .int .u32 0]) ?_ 4 _ rfl; (with_reducible repeat (first | apply blk_drewN | apply blk_drew | apply blk_alloc)); refine blk_put (cs := #[.int .i64 t207, .int .i64 t211, .int .i64 t212, .int .i64 0, .int .u32 0]) ?_ 3 _ rfl; (with_reducible repeat (first | apply blk_drewN | apply blk_drew | apply blk_alloc)); refine blk_put (cs := #[.int .i64 t207, .int .i64 t211, .int .i64 0, .int .i64 0, .int .u32 0]) ?_ 2 _ rfl; (with_reducible repeat (first | apply blk_drewN | apply blk_drew | apply blk_alloc)); refine blk_put (cs := #[.int .i64 t207, .int .i64 0, .int .i64 0, .int .i64 0, .int .u32 0]) ?_ 1 _ rfl; (with_reducible repeat (first | apply blk_drewN | apply blk_drew | apply blk_alloc)); refine blk_put (cs := #[.int .i64 0, .int .i64 0, .int .i64 0, .int .i64 0, .int .u32 0]) ?_ 0 _ rfl; (with_reducible repeat (first | apply blk_drewN | apply blk_drew | apply blk_alloc)); exact BK205.out) Try.underlying40 rfl (by kernel_rfl) (.cell gb206 40 #[.int .i64 a1, .int .i64 t213, .int .i64 t214, .int .i64 a0_3, .int .u32 x3_85] (0, 0) _ rfl (by (with_reducible repeat (first | apply blk_drewN | apply blk_drew | apply blk_alloc)); refine blk_put (cs := #[.int .i64 a1, .int .i64 t213, .int .i64 t214, .int .i64 a0_3, .int .u32 0]) ?_ 4 _ rfl; (with_reducible repeat (first | apply blk_drewN | apply blk_drew | apply blk_alloc)); refine blk_put (cs := #[.int .i64 a1, .int .i64 t213, .int .i64 t214, .int .i64 0, .int .u32 0]) ?_ 3 _ rfl; (with_reducible repeat (first | apply blk_drewN | apply blk_drew | apply blk_alloc)); refine blk_put (cs := #[.int .i64 a1, .int .i64 t213, .int .i64 0, .int .i64 0, .int .u32 0]) ?_ 2 _ rfl; (with_reducible repeat (first | apply blk_drewN | apply blk_drew | apply blk_alloc)); refine blk_put (cs := #[.int .i64 a1, .int .i64 0, .int .i64 0, .int .i64 0, .int .u32 0]) ?_ 1 _ rfl; (with_reducible repeat (first | apply blk_drewN | apply blk_drew | apply blk_alloc)); refine blk_put (cs := #[.int .i64 0, .int .i64 0, .int .i64 0, .int .i64 0, .int .u32 0]) ?_ 0 _ rfl; (repeat (first | (with_reducible first | apply blk_drewN | apply blk_drew | apply blk_alloc) | refine blk_far ?_ NB206_205.out _)); exact BK206.out) Try.underlying40 rfl (by kernel_rfl) (.tmp .nil)))) rfl ?_
         exact ⟨by first | rfl | (simp [errW_none, errW_some] <;> rfl) | (simp [*, errW_none, errW_some] <;> rfl), by repeat (first | (with_reducible first | exact HB.out | apply below_alloc | apply pw_below_drewN | apply below_drew1 | refine below_set ?_ GE203.out | refine below_set ?_ GE204.out | refine below_set ?_ GE205.out | refine below_set ?_ GE206.out | refine below_set ?_ GE216.out | refine below_set ?_ GE217.out) | exact HB.out)⟩
      ·rw [if_neg c85] at H
       have c85b0 : (t215 == 0) = false := beq_eq_false_iff_ne.mpr c85
       have c85b1 : (t215 != 0) = true := bne_iff_ne.mpr c85
       simp only [Option.some.injEq, Prod.mk.injEq] at H
       obtain ⟨rfl, rfl, rfl, rfl, rfl, rfl, rfl, rfl, rfl, rfl, rfl⟩ := H
       have hnb126 := NB203_204.out
       have hnc126 := NB204_203.out
       have hnb127 := NB203_205.out
       have hnc127 := NB205_203.out
       have hnb128 := NB203_206.out
       have hnc128 := NB206_203.out
       have hcz129_0 : wc.cell? ⟨gb203, 0, none⟩ = some (.int .i64 a0_0) := (blk_cell BK203.out 0).trans rfl
       have hcz129_1 : wc.cell? ⟨gb203, 1, none⟩ = some (.int .i64 a0_1) := (blk_cell BK203.out 1).trans rfl
       have hcz129_2 : wc.cell? ⟨gb203, 2, none⟩ = some (.int .i64 a0_2) := (blk_cell BK203.out 2).trans rfl
       have hcz129_3 : wc.cell? ⟨gb203, 3, none⟩ = some (.int .i64 a0_3) := (blk_cell BK203.out 3).trans rfl
       have hcz129_4 : wc.cell? ⟨gb203, 4, none⟩ = some (.int .u32 a0_4) := (blk_cell BK203.out 4).trans rfl
       have hfz129_0 := blk_frozen BK203.out 0
       have hfz129_1 := blk_frozen BK203.out 1
       have hfz129_2 := blk_frozen BK203.out 2
       have hfz129_3 := blk_frozen BK203.out 3
       have hfz129_4 := blk_frozen BK203.out 4
       have hnb130 := NB204_205.out
       have hnc130 := NB205_204.out
       have hnb131 := NB204_206.out
       have hnc131 := NB206_204.out
       have hcz132_0 : wc.cell? ⟨gb204, 0, none⟩ = some (.int .i64 a2_0) := (blk_cell BK204.out 0).trans rfl
       have hcz132_1 : wc.cell? ⟨gb204, 1, none⟩ = some (.int .i64 a2_1) := (blk_cell BK204.out 1).trans rfl
       have hfz132_0 := blk_frozen BK204.out 0
       have hfz132_1 := blk_frozen BK204.out 1
       go_wp2_with (first | ((with_reducible refine gate_callee (f := 39) rfl ?_); refine goesL_ (some 68) rfl rfl Try.func39 (by kernel_rfl) rfl #[.agg #[.int .i64 a0_1, .int .i64 a0_2], .agg #[.int .i64 a2_0, .int .i64 a2_1]] rfl (by (try simp only [List.map_toArray, List.map_cons, List.map_nil]); first | done | rfl | (simp only [List.length_drop, List.length_take]; rfl)) ?_; (with_reducible refine (perm_parts.calls kj23 a0_1 a0_2 a2_0 a2_1 t211 t212 t213 t214 t215 _ A84.out).mono ?_); rintro e w133 ⟨rfl, hb⟩; refine ⟨_, rfl, ?_⟩; have n0_ := Aside0.mk (blk_below (g := gb203) (o := .cells #[.int .i64 a0_0, .int .i64 a0_1, .int .i64 a0_2, .int .i64 a0_3, .int .u32 a0_4] 40 (0, 0)) (by (with_reducible repeat (first | apply blk_drewN | apply blk_drew | apply blk_alloc)); exact BK203.out) hb); have n1_ := Aside0.mk (blk_below (g := gb204) (o := .cells #[.int .i64 a2_0, .int .i64 a2_1] 23 (0, 0)) (by (with_reducible repeat (first | apply blk_drewN | apply blk_drew | apply blk_alloc)); exact BK204.out) hb); have n2_ := Aside0.mk (blk_below (g := gb205) (o := .cells #[.int .i64 0, .int .i64 0, .int .i64 0, .int .i64 0, .int .u32 0] 40 (0, 0)) (by (with_reducible repeat (first | apply blk_drewN | apply blk_drew | apply blk_alloc)); exact BK205.out) hb); have n3_ := Aside0.mk (blk_below (g := gb206) (o := .cells #[.int .i64 0, .int .i64 0, .int .i64 0, .int .i64 0, .int .u32 0] 40 (0, 0)) (by (with_reducible repeat (first | apply blk_drewN | apply blk_drew | apply blk_alloc)); exact BK206.out) hb); have n4_ := Aside0.mk (below_step (by repeat (first | (with_reducible first | exact HB.out | apply below_alloc | apply pw_below_drewN | apply below_drew1 | refine below_set ?_ GE203.out | refine below_set ?_ GE204.out | refine below_set ?_ GE205.out | refine below_set ?_ GE206.out) | exact HB.out)) hb); clear BK203; clear BK204; clear BK205; clear BK206; clear HB; have BK203 := n0_; have BK204 := n1_; have BK205 := n2_; have BK206 := n3_; have HB := n4_; clear n0_ n1_ n2_ n3_ n4_; (try clear hb); (try clear hb2); (try clear hk); (try clear hi)) | ((with_reducible refine gate_dst (N := 14) rfl ?_); refine box_event ?hg (N := 14) ?hd (cs := #[.int .i64 0, .int .i64 0]) (t := 23) ?hr ?_; (case hd => rfl); (case hg => rfl); (case hr => first | (go_simp; done) | (go_simp; rfl)); intro gb216 hg w134 hbox hb; have n0_ := Aside0.mk (blk_below (g := gb203) (o := .cells #[.int .i64 a0_0, .int .i64 a0_1, .int .i64 a0_2, .int .i64 a0_3, .int .u32 a0_4] 40 (0, 0)) (by (with_reducible repeat (first | apply blk_drewN | apply blk_drew | apply blk_alloc)); exact BK203.out) hb); have n1_ := Aside0.mk (blk_below (g := gb204) (o := .cells #[.int .i64 a2_0, .int .i64 a2_1] 23 (0, 0)) (by (with_reducible repeat (first | apply blk_drewN | apply blk_drew | apply blk_alloc)); exact BK204.out) hb); have n2_ := Aside0.mk (blk_below (g := gb205) (o := .cells #[.int .i64 0, .int .i64 0, .int .i64 0, .int .i64 0, .int .u32 0] 40 (0, 0)) (by (with_reducible repeat (first | apply blk_drewN | apply blk_drew | apply blk_alloc)); exact BK205.out) hb); have n3_ := Aside0.mk (blk_below (g := gb206) (o := .cells #[.int .i64 0, .int .i64 0, .int .i64 0, .int .i64 0, .int .u32 0] 40 (0, 0)) (by (with_reducible repeat (first | apply blk_drewN | apply blk_drew | apply blk_alloc)); exact BK206.out) hb); have n4_ := Aside0.mk (below_step (by repeat (first | (with_reducible first | exact HB.out | apply below_alloc | apply pw_below_drewN | apply below_drew1 | refine below_set ?_ GE203.out | refine below_set ?_ GE204.out | refine below_set ?_ GE205.out | refine below_set ?_ GE206.out) | exact HB.out)) hb); have n5_ := Aside0.mk (hbox); have n6_ := Aside0.mk ((by rw [hg]; exact (below_size (by repeat (first | (with_reducible first | exact HB.out | apply below_alloc | apply pw_below_drewN | apply below_drew1 | refine below_set ?_ GE203.out | refine below_set ?_ GE204.out | refine below_set ?_ GE205.out | refine below_set ?_ GE206.out) | exact HB.out))) : w.heap.size ≤ gb216)); have n7_ := Aside0.mk ((by rw [hg]; exact (below_size (by repeat (first | (with_reducible first | exact HB.out | apply below_alloc | apply pw_below_drewN | apply below_drew1 | refine below_set ?_ GE203.out | refine below_set ?_ GE204.out | refine below_set ?_ GE205.out | refine below_set ?_ GE206.out) | exact HB.out))) : w.heap.size ≤ gb216)); have n8_ := Aside0.mk ((by rw [hg]; exact Nat.ne_of_lt (blk_lt (g := gb203) (o := .cells #[.int .i64 a0_0, .int .i64 a0_1, .int .i64 a0_2, .int .i64 a0_3, .int .u32 a0_4] 40 (0, 0)) (by (with_reducible repeat (first | apply blk_drewN | apply blk_drew | apply blk_alloc)); exact BK203.out)) : gb203 ≠ gb216)); have n9_ := Aside0.mk ((by rw [hg]; exact Nat.ne_of_gt (blk_lt (g := gb203) (o := .cells #[.int .i64 a0_0, .int .i64 a0_1, .int .i64 a0_2, .int .i64 a0_3, .int .u32 a0_4] 40 (0, 0)) (by (with_reducible repeat (first | apply blk_drewN | apply blk_drew | apply blk_alloc)); exact BK203.out)) : gb216 ≠ gb203)); have n10_ := Aside0.mk ((by rw [hg]; exact Nat.ne_of_lt (blk_lt (g := gb204) (o := .cells #[.int .i64 a2_0, .int .i64 a2_1] 23 (0, 0)) (by (with_reducible repeat (first | apply blk_drewN | apply blk_drew | apply blk_alloc)); exact BK204.out)) : gb204 ≠ gb216)); have n11_ := Aside0.mk ((by rw [hg]; exact Nat.ne_of_gt (blk_lt (g := gb204) (o := .cells #[.int .i64 a2_0, .int .i64 a2_1] 23 (0, 0)) (by (with_reducible repeat (first | apply blk_drewN | apply blk_drew | apply blk_alloc)); exact BK204.out)) : gb216 ≠ gb204)); have n12_ := Aside0.mk ((by rw [hg]; exact Nat.ne_of_lt (blk_lt (g := gb205) (o := .cells #[.int .i64 0, .int .i64 0, .int .i64 0, .int .i64 0, .int .u32 0] 40 (0, 0)) (by (with_reducible repeat (first | apply blk_drewN | apply blk_drew | apply blk_alloc)); exact BK205.out)) : gb205 ≠ gb216)); have n13_ := Aside0.mk ((by rw [hg]; exact Nat.ne_of_gt (blk_lt (g := gb205) (o := .cells #[.int .i64 0, .int .i64 0, .int .i64 0, .int .i64 0, .int .u32 0] 40 (0, 0)) (by (with_reducible repeat (first | apply blk_drewN | apply blk_drew | apply blk_alloc)); exact BK205.out)) : gb216 ≠ gb205)); have n14_ := Aside0.mk ((by rw [hg]; exact Nat.ne_of_lt (blk_lt (g := gb206) (o := .cells #[.int .i64 0, .int .i64 0, .int .i64 0, .int .i64 0, .int .u32 0] 40 (0, 0)) (by (with_reducible repeat (first | apply blk_drewN | apply blk_drew | apply blk_alloc)); exact BK206.out)) : gb206 ≠ gb216)); have n15_ := Aside0.mk ((by rw [hg]; exact Nat.ne_of_gt (blk_lt (g := gb206) (o := .cells #[.int .i64 0, .int .i64 0, .int .i64 0, .int .i64 0, .int .u32 0] 40 (0, 0)) (by (with_reducible repeat (first | apply blk_drewN | apply blk_drew | apply blk_alloc)); exact BK206.out)) : gb216 ≠ gb206)); clear BK203; clear BK204; clear BK205; clear BK206; clear HB; have BK203 := n0_; have BK204 := n1_; have BK205 := n2_; have BK206 := n3_; have HB := n4_; have BK216 := n5_; have GW216 := n6_; have GE216 := n7_; have NB203_216 := n8_; have NB216_203 := n9_; have NB204_216 := n10_; have NB216_204 := n11_; have NB205_216 := n12_; have NB216_205 := n13_; have NB206_216 := n14_; have NB216_206 := n15_; clear n0_ n1_ n2_ n3_ n4_ n5_ n6_ n7_ n8_ n9_ n10_ n11_ n12_ n13_ n14_ n15_; clear hb hbox hg) | ((with_reducible refine gate_dst (N := 15) rfl ?_); refine box_event ?hg (N := 15) ?hd (cs := #[.int .i64 0, .int .i64 0]) (t := 23) ?hr ?_; (case hd => rfl); (case hg => rfl); (case hr => first | (go_simp; done) | (go_simp; rfl)); intro gb217 hg w135 hbox hb; have n0_ := Aside0.mk (blk_below (g := gb203) (o := .cells #[.int .i64 a0_0, .int .i64 a0_1, .int .i64 a0_2, .int .i64 a0_3, .int .u32 a0_4] 40 (0, 0)) (by (with_reducible repeat (first | apply blk_drewN | apply blk_drew | apply blk_alloc)); exact BK203.out) hb); have n1_ := Aside0.mk (blk_below (g := gb204) (o := .cells #[.int .i64 a2_0, .int .i64 a2_1] 23 (0, 0)) (by (with_reducible repeat (first | apply blk_drewN | apply blk_drew | apply blk_alloc)); exact BK204.out) hb); have n2_ := Aside0.mk (blk_below (g := gb205) (o := .cells #[.int .i64 0, .int .i64 0, .int .i64 0, .int .i64 0, .int .u32 0] 40 (0, 0)) (by (with_reducible repeat (first | apply blk_drewN | apply blk_drew | apply blk_alloc)); exact BK205.out) hb); have n3_ := Aside0.mk (blk_below (g := gb206) (o := .cells #[.int .i64 0, .int .i64 0, .int .i64 0, .int .i64 0, .int .u32 0] 40 (0, 0)) (by (with_reducible repeat (first | apply blk_drewN | apply blk_drew | apply blk_alloc)); exact BK206.out) hb); have n4_ := Aside0.mk (blk_below (g := gb216) (o := .cells #[.int .i64 0, .int .i64 0] 23 (0, 0)) (by (with_reducible repeat (first | apply blk_drewN | apply blk_drew | apply blk_alloc)); exact BK216.out) hb); have n5_ := Aside0.mk (below_step (by repeat (first | (with_reducible first | exact HB.out | apply below_alloc | apply pw_below_drewN | apply below_drew1 | refine below_set ?_ GE203.out | refine below_set ?_ GE204.out | refine below_set ?_ GE205.out | refine below_set ?_ GE206.out | refine below_set ?_ GE216.out) | exact HB.out)) hb); have n6_ := Aside0.mk (hbox); have n7_ := Aside0.mk ((by rw [hg]; exact (below_size (by repeat (first | (with_reducible first | exact HB.out | apply below_alloc | apply pw_below_drewN | apply below_drew1 | refine below_set ?_ GE203.out | refine below_set ?_ GE204.out | refine below_set ?_ GE205.out | refine below_set ?_ GE206.out | refine below_set ?_ GE216.out) | exact HB.out))) : w.heap.size ≤ gb217)); have n8_ := Aside0.mk ((by rw [hg]; exact (below_size (by repeat (first | (with_reducible first | exact HB.out | apply below_alloc | apply pw_below_drewN | apply below_drew1 | refine below_set ?_ GE203.out | refine below_set ?_ GE204.out | refine below_set ?_ GE205.out | refine below_set ?_ GE206.out | refine below_set ?_ GE216.out) | exact HB.out))) : w.heap.size ≤ gb217)); have n9_ := Aside0.mk ((by rw [hg]; exact Nat.ne_of_lt (blk_lt (g := gb203) (o := .cells #[.int .i64 a0_0, .int .i64 a0_1, .int .i64 a0_2, .int .i64 a0_3, .int .u32 a0_4] 40 (0, 0)) (by (with_reducible repeat (first | apply blk_drewN | apply blk_drew | apply blk_alloc)); exact BK203.out)) : gb203 ≠ gb217)); have n10_ := Aside0.mk ((by rw [hg]; exact Nat.ne_of_gt (blk_lt (g := gb203) (o := .cells #[.int .i64 a0_0, .int .i64 a0_1, .int .i64 a0_2, .int .i64 a0_3, .int .u32 a0_4] 40 (0, 0)) (by (with_reducible repeat (first | apply blk_drewN | apply blk_drew | apply blk_alloc)); exact BK203.out)) : gb217 ≠ gb203)); have n11_ := Aside0.mk ((by rw [hg]; exact Nat.ne_of_lt (blk_lt (g := gb204) (o := .cells #[.int .i64 a2_0, .int .i64 a2_1] 23 (0, 0)) (by (with_reducible repeat (first | apply blk_drewN | apply blk_drew | apply blk_alloc)); exact BK204.out)) : gb204 ≠ gb217)); have n12_ := Aside0.mk ((by rw [hg]; exact Nat.ne_of_gt (blk_lt (g := gb204) (o := .cells #[.int .i64 a2_0, .int .i64 a2_1] 23 (0, 0)) (by (with_reducible repeat (first | apply blk_drewN | apply blk_drew | apply blk_alloc)); exact BK204.out)) : gb217 ≠ gb204)); have n13_ := Aside0.mk ((by rw [hg]; exact Nat.ne_of_lt (blk_lt (g := gb205) (o := .cells #[.int .i64 0, .int .i64 0, .int .i64 0, .int .i64 0, .int .u32 0] 40 (0, 0)) (by (with_reducible repeat (first | apply blk_drewN | apply blk_drew | apply blk_alloc)); exact BK205.out)) : gb205 ≠ gb217)); have n14_ := Aside0.mk ((by rw [hg]; exact Nat.ne_of_gt (blk_lt (g := gb205) (o := .cells #[.int .i64 0, .int .i64 0, .int .i64 0, .int .i64 0, .int .u32 0] 40 (0, 0)) (by (with_reducible repeat (first | apply blk_drewN | apply blk_drew | apply blk_alloc)); exact BK205.out)) : gb217 ≠ gb205)); have n15_ := Aside0.mk ((by rw [hg]; exact Nat.ne_of_lt (blk_lt (g := gb206) (o := .cells #[.int .i64 0, .int .i64 0, .int .i64 0, .int .i64 0, .int .u32 0] 40 (0, 0)) (by (with_reducible repeat (first | apply blk_drewN | apply blk_drew | apply blk_alloc)); exact BK206.out)) : gb206 ≠ gb217)); have n16_ := Aside0.mk ((by rw [hg]; exact Nat.ne_of_gt (blk_lt (g := gb206) (o := .cells #[.int .i64 0, .int .i64 0, .int .i64 0, .int .i64 0, .int .u32 0] 40 (0, 0)) (by (with_reducible repeat (first | apply blk_drewN | apply blk_drew | apply blk_alloc)); exact BK206.out)) : gb217 ≠ gb206)); have n17_ := Aside0.mk ((by rw [hg]; exact Nat.ne_of_lt (blk_lt (g := gb216) (o := .cells #[.int .i64 0, .int .i64 0] 23 (0, 0)) (by (with_reducible repeat (first | apply blk_drewN | apply blk_drew | apply blk_alloc)); exact BK216.out)) : gb216 ≠ gb217)); have n18_ := Aside0.mk ((by rw [hg]; exact Nat.ne_of_gt (blk_lt (g := gb216) (o := .cells #[.int .i64 0, .int .i64 0] 23 (0, 0)) (by (with_reducible repeat (first | apply blk_drewN | apply blk_drew | apply blk_alloc)); exact BK216.out)) : gb217 ≠ gb216)); clear BK203; clear BK204; clear BK205; clear BK206; clear BK216; clear HB; have BK203 := n0_; have BK204 := n1_; have BK205 := n2_; have BK206 := n3_; have BK216 := n4_; have HB := n5_; have BK217 := n6_; have GW217 := n7_; have GE217 := n8_; have NB203_217 := n9_; have NB217_203 := n10_; have NB204_217 := n11_; have NB217_204 := n12_; have NB205_217 := n13_; have NB217_205 := n14_; have NB206_217 := n15_; have NB217_206 := n16_; have NB216_217 := n17_; have NB217_216 := n18_; clear n0_ n1_ n2_ n3_ n4_ n5_ n6_ n7_ n8_ n9_ n10_ n11_ n12_ n13_ n14_ n15_ n16_ n17_ n18_; clear hb hbox hg; have hnb136 := NB216_203.out; have hnc136 := NB203_216.out; have hnb137 := NB216_204.out; have hnc137 := NB204_216.out; have hnb138 := NB216_205.out; have hnc138 := NB205_216.out; have hnb139 := NB216_206.out; have hnc139 := NB206_216.out; have hnb140 := NB216_217.out; have hnc140 := NB217_216.out; have hcz141_0 : w135.cell? ⟨gb216, 0, none⟩ = some (.int .i64 0) := (blk_cell BK216.out 0).trans rfl; have hcz141_1 : w135.cell? ⟨gb216, 1, none⟩ = some (.int .i64 0) := (blk_cell BK216.out 1).trans rfl; have hfz141_0 := blk_frozen BK216.out 0; have hfz141_1 := blk_frozen BK216.out 1; have hnb142 := NB217_203.out; have hnc142 := NB203_217.out; have hnb143 := NB217_204.out; have hnc143 := NB204_217.out; have hnb144 := NB217_205.out; have hnc144 := NB205_217.out; have hnb145 := NB217_206.out; have hnc145 := NB206_217.out; have hcz146_0 : w135.cell? ⟨gb217, 0, none⟩ = some (.int .i64 0) := (blk_cell BK217.out 0).trans rfl; have hcz146_1 : w135.cell? ⟨gb217, 1, none⟩ = some (.int .i64 0) := (blk_cell BK217.out 1).trans rfl; have hfz146_0 := blk_frozen BK217.out 0; have hfz146_1 := blk_frozen BK217.out 1; have hnb147 := NB205_206.out; have hnc147 := NB206_205.out; have hcz148_0 : w135.cell? ⟨gb205, 0, none⟩ = some (.int .i64 0) := (blk_cell BK205.out 0).trans rfl; have hcz148_1 : w135.cell? ⟨gb205, 1, none⟩ = some (.int .i64 0) := (blk_cell BK205.out 1).trans rfl; have hcz148_2 : w135.cell? ⟨gb205, 2, none⟩ = some (.int .i64 0) := (blk_cell BK205.out 2).trans rfl; have hcz148_3 : w135.cell? ⟨gb205, 3, none⟩ = some (.int .i64 0) := (blk_cell BK205.out 3).trans rfl; have hcz148_4 : w135.cell? ⟨gb205, 4, none⟩ = some (.int .u32 0) := (blk_cell BK205.out 4).trans rfl; have hfz148_0 := blk_frozen BK205.out 0; have hfz148_1 := blk_frozen BK205.out 1; have hfz148_2 := blk_frozen BK205.out 2; have hfz148_3 := blk_frozen BK205.out 3; have hfz148_4 := blk_frozen BK205.out 4; have hcz149_0 : w135.cell? ⟨gb206, 0, none⟩ = some (.int .i64 0) := (blk_cell BK206.out 0).trans rfl; have hcz149_1 : w135.cell? ⟨gb206, 1, none⟩ = some (.int .i64 0) := (blk_cell BK206.out 1).trans rfl; have hcz149_2 : w135.cell? ⟨gb206, 2, none⟩ = some (.int .i64 0) := (blk_cell BK206.out 2).trans rfl; have hcz149_3 : w135.cell? ⟨gb206, 3, none⟩ = some (.int .i64 0) := (blk_cell BK206.out 3).trans rfl; have hcz149_4 : w135.cell? ⟨gb206, 4, none⟩ = some (.int .u32 0) := (blk_cell BK206.out 4).trans rfl; have hfz149_0 := blk_frozen BK206.out 0; have hfz149_1 := blk_frozen BK206.out 1; have hfz149_2 := blk_frozen BK206.out 2; have hfz149_3 := blk_frozen BK206.out 3; have hfz149_4 := blk_frozen BK206.out 4))
       refine bodyPost_ret (results_list (rs := [.cell 8 40, .cell 9 40, .tmp 10]) rfl (by simp) (.cell gb205 40 #[.int .i64 0, .int .i64 0, .int .i64 0, .int .i64 0, .int .u32 0] (0, 0) _ rfl (by (with_reducible repeat (first | apply blk_drewN | apply blk_drew | apply blk_alloc)); refine blk_far ?_ NB205_206.out _; (with_reducible repeat (first | apply blk_drewN | apply blk_drew | apply blk_alloc)); refine blk_far ?_ NB205_206.out _; (with_reducible repeat (first | apply blk_drewN | apply blk_drew | apply blk_alloc)); refine blk_far ?_ NB205_206.out _; (with_reducible repeat (first | apply blk_drewN | apply blk_drew | apply blk_alloc)); refine blk_far ?_ NB205_206.out _; (with_reducible repeat (first | apply blk_drewN | apply blk_drew | apply blk_alloc)); refine blk_far ?_ NB205_206.out _; (with_reducible repeat (first | apply blk_drewN | apply blk_drew | apply blk_alloc)); refine blk_put (cs := #[.int .i64 0, .int .i64 0, .int .i64 0, .int .i64 0, .int .u32 0]) ?_ 4 _ rfl; (with_reducible repeat (first | apply blk_drewN | apply blk_drew | apply blk_alloc)); refine blk_put (cs := #[.int .i64 0, .int .i64 0, .int .i64 0, .int .i64 0, .int .u32 0]) ?_ 3 _ rfl; (with_reducible repeat (first | apply blk_drewN | apply blk_drew | apply blk_alloc)); refine blk_put (cs := #[.int .i64 0, .int .i64 0, .int .i64 0, .int .i64 0, .int .u32 0]) ?_ 2 _ rfl; (with_reducible repeat (first | apply blk_drewN | apply blk_drew | apply blk_alloc)); refine blk_put (cs := #[.int .i64 0, .int .i64 0, .int .i64 0, .int .i64 0, .int .u32 0]) ?_ 1 _ rfl; (with_reducible repeat (first | apply blk_drewN | apply blk_drew | apply blk_alloc)); refine blk_put (cs := #[.int .i64 0, .int .i64 0, .int .i64 0, .int .i64 0, .int .u32 0]) ?_ 0 _ rfl; (repeat (first | (with_reducible first | apply blk_drewN | apply blk_drew | apply blk_alloc) | refine blk_far ?_ NB205_216.out _ | refine blk_far ?_ NB205_217.out _)); exact BK205.out) Try.underlying40 rfl (by kernel_rfl) (.cell gb206 40 #[.int .i64 0, .int .i64 0, .int .i64 0, .int .i64 0, .int .u32 0] (0, 0) _ rfl (by (with_reducible repeat (first | apply blk_drewN | apply blk_drew | apply blk_alloc)); refine blk_put (cs := #[.int .i64 0, .int .i64 0, .int .i64 0, .int .i64 0, .int .u32 0]) ?_ 4 _ rfl; (with_reducible repeat (first | apply blk_drewN | apply blk_drew | apply blk_alloc)); refine blk_put (cs := #[.int .i64 0, .int .i64 0, .int .i64 0, .int .i64 0, .int .u32 0]) ?_ 3 _ rfl; (with_reducible repeat (first | apply blk_drewN | apply blk_drew | apply blk_alloc)); refine blk_put (cs := #[.int .i64 0, .int .i64 0, .int .i64 0, .int .i64 0, .int .u32 0]) ?_ 2 _ rfl; (with_reducible repeat (first | apply blk_drewN | apply blk_drew | apply blk_alloc)); refine blk_put (cs := #[.int .i64 0, .int .i64 0, .int .i64 0, .int .i64 0, .int .u32 0]) ?_ 1 _ rfl; (with_reducible repeat (first | apply blk_drewN | apply blk_drew | apply blk_alloc)); refine blk_put (cs := #[.int .i64 0, .int .i64 0, .int .i64 0, .int .i64 0, .int .u32 0]) ?_ 0 _ rfl; (repeat (first | (with_reducible first | apply blk_drewN | apply blk_drew | apply blk_alloc) | refine blk_far ?_ NB206_205.out _ | refine blk_far ?_ NB206_216.out _ | refine blk_far ?_ NB206_217.out _)); exact BK206.out) Try.underlying40 rfl (by kernel_rfl) (.tmp .nil)))) rfl ?_
       exact ⟨by first | rfl | (simp [errW_none, errW_some] <;> rfl) | (simp [*, errW_none, errW_some] <;> rfl), by repeat (first | (with_reducible first | exact HB.out | apply below_alloc | apply pw_below_drewN | apply below_drew1 | refine below_set ?_ GE203.out | refine below_set ?_ GE204.out | refine below_set ?_ GE205.out | refine below_set ?_ GE206.out | refine below_set ?_ GE216.out | refine below_set ?_ GE217.out) | exact HB.out)⟩

end Go.Proofs.Ytpcdcanmbokpfaa.PPH
