-- Written by a program of this session (wip/myprint.py).
import Derived.Test.YtpcdcanmbokpfaaPRatx0
import Derived.Test.YtpcdcanmbokpfaaPRatx1
import Derived.Test.YtpcdcanmbokpfaaPRatx3
import Derived.Test.YtpcdcanmbokpfaaPRatx8
import Derived.Test.YtpcdcanmbokpfaaPRatx10
import Derived.Test.YtpcdcanmbokpfaaPRatx12
namespace Go.Proofs.Ytpcdcanmbokpfaa.PRat
open Go.RowKit Go.Proofs.YtpcdcanmbokpfaaW.PrintWords Go.Proofs.YtpcdcanmbokpfaaW.PrintLast Go.Proofs.YtpcdcanmbokpfaaW.PrintMore
attribute [local go_sem] max2_int min2_int max_two min_two max_three min_three max_four min_four   -- for this text's walks alone
set_option linter.unusedVariables false
set_option linter.unusedSimpArgs false

attribute [local go_sem high] eqA23
/-! ### ballcocklaw01_RatOrder: function 6 -/
mutual
def ballcocklaw01_RatOrder.j0 : Nat → Bool → Int → Int → Int → Int → Int → Int → Option (Bool)
  | 0, _, _, _, _, _, _, _ => none
  | k + 1, x30, x515000, x515001, x516000, x516001, x517000, x517001 => if x30 = true then ((ballcocklaw01_awake.f k).bind fun t521 => (some t521)) else ((rat_Compare.f k x515000 x515001 x516000 x516001).bind fun t522 => ((rat_Compare.f k x516000 x516001 x515000 x515001).bind fun t523 => (if t522 = (wrap64 (-t523)) then (ballcocklaw01_RatOrder.j1 k t522 ((t522 == 0) != (x515000 == x516000 && (x515001 == x516001))) x515000 x515001 x516000 x516001 x517000 x517001) else (ballcocklaw01_RatOrder.j1 k t522 true x515000 x515001 x516000 x516001 x517000 x517001))))
def ballcocklaw01_RatOrder.j1 : Nat → Int → Bool → Int → Int → Int → Int → Int → Int → Option (Bool)
  | 0, _, _, _, _, _, _, _, _ => none
  | k + 1, x7, x48, x515000, x515001, x516000, x516001, x517000, x517001 => if x48 = true then (some false) else ((rat_Sub.f k x515000 x515001 x516000 x516001).bind fun bt524 => (if bt524.2.2 = 0 then (ballcocklaw01_RatOrder.j2 k x7 ((decide (bt524.1 > 0)) != (decide (x7 > 0))) x515000 x515001 x516000 x516001 x517000 x517001) else (ballcocklaw01_RatOrder.j2 k x7 false x515000 x515001 x516000 x516001 x517000 x517001)))
def ballcocklaw01_RatOrder.j2 : Nat → Int → Bool → Int → Int → Int → Int → Int → Int → Option (Bool)
  | 0, _, _, _, _, _, _, _, _ => none
  | k + 1, x7, x64, x515000, x515001, x516000, x516001, x517000, x517001 => if x64 = true then (some false) else ((rat_Add.f k x515000 x515001 x517000 x517001).bind fun bt528 => ((rat_Add.f k x516000 x516001 x517000 x517001).bind fun bt532 => (if bt528.2.2 = 0 then (if bt532.2.2 = 0 then ((rat_Compare.f k bt528.1 bt528.2.1 bt532.1 bt532.2.1).bind fun t536 => (some (t536 == x7))) else (some true)) else (some true))))
end
def ballcocklaw01_RatOrder.f (k : Nat) (a0_0 : Int) (a0_1 : Int) (a1_0 : Int) (a1_1 : Int) (a2_0 : Int) (a2_1 : Int) : Option (Bool) := (ballcocklaw01_awake.f k).bind fun t517 => (if t517 = true then ((rat_Right.f k a0_0 a0_1).bind fun t518 => (if t518 = true then ((rat_Right.f k a1_0 a1_1).bind fun t519 => (if t519 = true then ((rat_Right.f k a2_0 a2_1).bind fun t520 => (ballcocklaw01_RatOrder.j0 k (!t520) a0_0 a0_1 a1_0 a1_1 a2_0 a2_1)) else (ballcocklaw01_RatOrder.j0 k true a0_0 a0_1 a1_0 a1_1 a2_0 a2_1))) else (ballcocklaw01_RatOrder.j0 k true a0_0 a0_1 a1_0 a1_1 a2_0 a2_1))) else (ballcocklaw01_RatOrder.j0 k true a0_0 a0_1 a1_0 a1_1 a2_0 a2_1))
theorem ballcocklaw01_RatOrder.mono_l : ∀ k, (∀ y0 y1 y2 y3 y4 y5 y6, LeO (ballcocklaw01_RatOrder.j0 k y0 y1 y2 y3 y4 y5 y6) (ballcocklaw01_RatOrder.j0 (k + 1) y0 y1 y2 y3 y4 y5 y6)) ∧ (∀ y0 y1 y2 y3 y4 y5 y6 y7, LeO (ballcocklaw01_RatOrder.j1 k y0 y1 y2 y3 y4 y5 y6 y7) (ballcocklaw01_RatOrder.j1 (k + 1) y0 y1 y2 y3 y4 y5 y6 y7)) ∧ (∀ y0 y1 y2 y3 y4 y5 y6 y7, LeO (ballcocklaw01_RatOrder.j2 k y0 y1 y2 y3 y4 y5 y6 y7) (ballcocklaw01_RatOrder.j2 (k + 1) y0 y1 y2 y3 y4 y5 y6 y7))
  | 0 => ⟨fun _ _ _ _ _ _ _ r h => by simp [ballcocklaw01_RatOrder.j0] at h, fun _ _ _ _ _ _ _ _ r h => by simp [ballcocklaw01_RatOrder.j1] at h, fun _ _ _ _ _ _ _ _ r h => by simp [ballcocklaw01_RatOrder.j2] at h⟩
  | k + 1 => by
    obtain ⟨ih0, ih1, ih2⟩ := ballcocklaw01_RatOrder.mono_l k
    refine ⟨?_, ?_, ?_⟩
    · intro y0 y1 y2 y3 y4 y5 y6
      unfold ballcocklaw01_RatOrder.j0
      repeat' first
      | (with_reducible exact ih0 _ _ _ _ _ _ _)
      | (with_reducible exact ih1 _ _ _ _ _ _ _ _)
      | (with_reducible exact ih2 _ _ _ _ _ _ _ _)
      | (with_reducible exact ballcocklaw01_awake.mono _)
      | (with_reducible exact rat_Add.mono _ _ _ _ _)
      | (with_reducible exact rat_Compare.mono _ _ _ _ _)
      | (with_reducible exact rat_Right.mono _ _ _)
      | (with_reducible exact rat_Sub.mono _ _ _ _ _)
      | (with_reducible exact LeO.refl _)
      | (with_reducible exact LeO.none _)
      | (with_reducible refine LeO.ite ?_ ?_)
      | (with_reducible refine LeO.bind ?_ (fun _ => ?_))
      | exact ih0 _ _ _ _ _ _ _
      | exact ih1 _ _ _ _ _ _ _ _
      | exact ih2 _ _ _ _ _ _ _ _
      | exact ballcocklaw01_awake.mono _
      | exact rat_Add.mono _ _ _ _ _
      | exact rat_Compare.mono _ _ _ _ _
      | exact rat_Right.mono _ _ _
      | exact rat_Sub.mono _ _ _ _ _
      | exact LeO.none _
      | refine LeO.ite ?_ ?_
      | refine LeO.bind ?_ (fun _ => ?_)
    · intro y0 y1 y2 y3 y4 y5 y6 y7
      unfold ballcocklaw01_RatOrder.j1
      repeat' first
      | (with_reducible exact ih0 _ _ _ _ _ _ _)
      | (with_reducible exact ih1 _ _ _ _ _ _ _ _)
      | (with_reducible exact ih2 _ _ _ _ _ _ _ _)
      | (with_reducible exact ballcocklaw01_awake.mono _)
      | (with_reducible exact rat_Add.mono _ _ _ _ _)
      | (with_reducible exact rat_Compare.mono _ _ _ _ _)
      | (with_reducible exact rat_Right.mono _ _ _)
      | (with_reducible exact rat_Sub.mono _ _ _ _ _)
      | (with_reducible exact LeO.refl _)
      | (with_reducible exact LeO.none _)
      | (with_reducible refine LeO.ite ?_ ?_)
      | (with_reducible refine LeO.bind ?_ (fun _ => ?_))
      | exact ih0 _ _ _ _ _ _ _
      | exact ih1 _ _ _ _ _ _ _ _
      | exact ih2 _ _ _ _ _ _ _ _
      | exact ballcocklaw01_awake.mono _
      | exact rat_Add.mono _ _ _ _ _
      | exact rat_Compare.mono _ _ _ _ _
      | exact rat_Right.mono _ _ _
      | exact rat_Sub.mono _ _ _ _ _
      | exact LeO.none _
      | refine LeO.ite ?_ ?_
      | refine LeO.bind ?_ (fun _ => ?_)
    · intro y0 y1 y2 y3 y4 y5 y6 y7
      unfold ballcocklaw01_RatOrder.j2
      repeat' first
      | (with_reducible exact ih0 _ _ _ _ _ _ _)
      | (with_reducible exact ih1 _ _ _ _ _ _ _ _)
      | (with_reducible exact ih2 _ _ _ _ _ _ _ _)
      | (with_reducible exact ballcocklaw01_awake.mono _)
      | (with_reducible exact rat_Add.mono _ _ _ _ _)
      | (with_reducible exact rat_Compare.mono _ _ _ _ _)
      | (with_reducible exact rat_Right.mono _ _ _)
      | (with_reducible exact rat_Sub.mono _ _ _ _ _)
      | (with_reducible exact LeO.refl _)
      | (with_reducible exact LeO.none _)
      | (with_reducible refine LeO.ite ?_ ?_)
      | (with_reducible refine LeO.bind ?_ (fun _ => ?_))
      | exact ih0 _ _ _ _ _ _ _
      | exact ih1 _ _ _ _ _ _ _ _
      | exact ih2 _ _ _ _ _ _ _ _
      | exact ballcocklaw01_awake.mono _
      | exact rat_Add.mono _ _ _ _ _
      | exact rat_Compare.mono _ _ _ _ _
      | exact rat_Right.mono _ _ _
      | exact rat_Sub.mono _ _ _ _ _
      | exact LeO.none _
      | refine LeO.ite ?_ ?_
      | refine LeO.bind ?_ (fun _ => ?_)
theorem ballcocklaw01_RatOrder.mono : ∀ a0 a1 a2 a3 a4 a5 k, LeO (ballcocklaw01_RatOrder.f k a0 a1 a2 a3 a4 a5) (ballcocklaw01_RatOrder.f (k + 1) a0 a1 a2 a3 a4 a5) := by
  intro a0 a1 a2 a3 a4 a5 k
  obtain ⟨ih0, ih1, ih2⟩ := ballcocklaw01_RatOrder.mono_l k
  unfold ballcocklaw01_RatOrder.f
  repeat' first
      | (with_reducible exact ih0 _ _ _ _ _ _ _)
      | (with_reducible exact ih1 _ _ _ _ _ _ _ _)
      | (with_reducible exact ih2 _ _ _ _ _ _ _ _)
      | (with_reducible exact ballcocklaw01_awake.mono _)
      | (with_reducible exact rat_Add.mono _ _ _ _ _)
      | (with_reducible exact rat_Compare.mono _ _ _ _ _)
      | (with_reducible exact rat_Right.mono _ _ _)
      | (with_reducible exact rat_Sub.mono _ _ _ _ _)
      | (with_reducible exact LeO.refl _)
      | (with_reducible exact LeO.none _)
      | (with_reducible refine LeO.ite ?_ ?_)
      | (with_reducible refine LeO.bind ?_ (fun _ => ?_))
      | exact ih0 _ _ _ _ _ _ _
      | exact ih1 _ _ _ _ _ _ _ _
      | exact ih2 _ _ _ _ _ _ _ _
      | exact ballcocklaw01_awake.mono _
      | exact rat_Add.mono _ _ _ _ _
      | exact rat_Compare.mono _ _ _ _ _
      | exact rat_Right.mono _ _ _
      | exact rat_Sub.mono _ _ _ _ _
      | exact LeO.none _
      | refine LeO.ite ?_ ?_
      | refine LeO.bind ?_ (fun _ => ?_)
set_option maxHeartbeats 8000000 in
set_option maxRecDepth 100000 in
theorem ballcocklaw01_RatOrder.calls (k : Nat) (a0_0 : Int) (a0_1 : Int) (a1_0 : Int) (a1_1 : Int) (a2_0 : Int) (a2_1 : Int) (r : Bool) (w : World) (hr_ : r = true) (h : ballcocklaw01_RatOrder.f k a0_0 a0_1 a1_0 a1_1 a2_0 a2_1 = some r) :
    Calls Try.prog 6 #[.agg #[.int .i64 a0_0, .int .i64 a0_1], .agg #[.int .i64 a1_0, .int .i64 a1_1], .agg #[.int .i64 a2_0, .int .i64 a2_1]] w fun e w' => e = .returned (.bool r) ∧ Below w.heap.size w w' := by
  have hu23 := Try.underlying23
  have HB := Aside0.mk (Below.refl w.heap.size w)
  have H : ((ballcocklaw01_awake.f k).bind fun t517 => (if t517 = true then ((rat_Right.f k a0_0 a0_1).bind fun t518 => (if t518 = true then ((rat_Right.f k a1_0 a1_1).bind fun t519 => (if t519 = true then ((rat_Right.f k a2_0 a2_1).bind fun t520 => (ballcocklaw01_RatOrder.j0 k (!t520) a0_0 a0_1 a1_0 a1_1 a2_0 a2_1)) else (ballcocklaw01_RatOrder.j0 k true a0_0 a0_1 a1_0 a1_1 a2_0 a2_1))) else (ballcocklaw01_RatOrder.j0 k true a0_0 a0_1 a1_0 a1_1 a2_0 a2_1))) else (ballcocklaw01_RatOrder.j0 k true a0_0 a0_1 a1_0 a1_1 a2_0 a2_1))) = some r := h
  clear h
  have HC4 := Aside0.mk H
  clear H
  go_enter Try.func6, Try.ntmps6
  go_upto_region 1 with (first | ((with_reducible refine gate_dst (N := 3) rfl ?_); refine box_event ?hg (N := 3) ?hd (cs := #[.int .i64 a0_0, .int .i64 a0_1]) (t := 23) ?hr ?_; (case hd => rfl); (case hg => rfl); (case hr => first | (go_simp; done) | (go_simp; rfl)); intro gb514 hg w5 hbox hb; have n0_ := Aside0.mk (below_step (by repeat (first | (with_reducible first | exact HB.out | apply below_alloc | apply pw_below_drewN | apply below_drew1) | exact HB.out)) hb); have n1_ := Aside0.mk (hbox); have n2_ := Aside0.mk ((by rw [hg]; exact (below_size (by repeat (first | (with_reducible first | exact HB.out | apply below_alloc | apply pw_below_drewN | apply below_drew1) | exact HB.out))) : w.heap.size ≤ gb514)); have n3_ := Aside0.mk ((by rw [hg]; exact (below_size (by repeat (first | (with_reducible first | exact HB.out | apply below_alloc | apply pw_below_drewN | apply below_drew1) | exact HB.out))) : w.heap.size ≤ gb514)); clear HB; have HB := n0_; have BK514 := n1_; have GW514 := n2_; have GE514 := n3_; clear n0_ n1_ n2_ n3_; clear hb hbox hg) | ((with_reducible refine gate_dst (N := 4) rfl ?_); refine box_event ?hg (N := 4) ?hd (cs := #[.int .i64 a1_0, .int .i64 a1_1]) (t := 23) ?hr ?_; (case hd => rfl); (case hg => rfl); (case hr => first | (go_simp; done) | (go_simp; rfl)); intro gb515 hg w6 hbox hb; have n0_ := Aside0.mk (blk_below (g := gb514) (o := .cells #[.int .i64 a0_0, .int .i64 a0_1] 23 (0, 0)) (by (with_reducible repeat (first | refine blk_drewN ?_ _ | refine blk_drew ?_ | refine blk_alloc ?_ _)); exact BK514.out) hb); have n1_ := Aside0.mk (below_step (by repeat (first | (with_reducible first | exact HB.out | apply below_alloc | apply pw_below_drewN | apply below_drew1 | refine below_set ?_ GE514.out) | exact HB.out)) hb); have n2_ := Aside0.mk (hbox); have n3_ := Aside0.mk ((by rw [hg]; exact (below_size (by repeat (first | (with_reducible first | exact HB.out | apply below_alloc | apply pw_below_drewN | apply below_drew1 | refine below_set ?_ GE514.out) | exact HB.out))) : w.heap.size ≤ gb515)); have n4_ := Aside0.mk ((by rw [hg]; exact (below_size (by repeat (first | (with_reducible first | exact HB.out | apply below_alloc | apply pw_below_drewN | apply below_drew1 | refine below_set ?_ GE514.out) | exact HB.out))) : w.heap.size ≤ gb515)); have n5_ := Aside0.mk ((by rw [hg]; exact Nat.ne_of_lt (blk_lt (g := gb514) (o := .cells #[.int .i64 a0_0, .int .i64 a0_1] 23 (0, 0)) (by (with_reducible repeat (first | refine blk_drewN ?_ _ | refine blk_drew ?_ | refine blk_alloc ?_ _)); exact BK514.out)) : gb514 ≠ gb515)); have n6_ := Aside0.mk ((by rw [hg]; exact Nat.ne_of_gt (blk_lt (g := gb514) (o := .cells #[.int .i64 a0_0, .int .i64 a0_1] 23 (0, 0)) (by (with_reducible repeat (first | refine blk_drewN ?_ _ | refine blk_drew ?_ | refine blk_alloc ?_ _)); exact BK514.out)) : gb515 ≠ gb514)); clear BK514; clear HB; have BK514 := n0_; have HB := n1_; have BK515 := n2_; have GW515 := n3_; have GE515 := n4_; have NB514_515 := n5_; have NB515_514 := n6_; clear n0_ n1_ n2_ n3_ n4_ n5_ n6_; clear hb hbox hg) | ((with_reducible refine gate_dst (N := 5) rfl ?_); refine box_event ?hg (N := 5) ?hd (cs := #[.int .i64 a2_0, .int .i64 a2_1]) (t := 23) ?hr ?_; (case hd => rfl); (case hg => rfl); (case hr => first | (go_simp; done) | (go_simp; rfl)); intro gb516 hg w7 hbox hb; have n0_ := Aside0.mk (blk_below (g := gb514) (o := .cells #[.int .i64 a0_0, .int .i64 a0_1] 23 (0, 0)) (by (with_reducible repeat (first | refine blk_drewN ?_ _ | refine blk_drew ?_ | refine blk_alloc ?_ _)); exact BK514.out) hb); have n1_ := Aside0.mk (blk_below (g := gb515) (o := .cells #[.int .i64 a1_0, .int .i64 a1_1] 23 (0, 0)) (by (with_reducible repeat (first | refine blk_drewN ?_ _ | refine blk_drew ?_ | refine blk_alloc ?_ _)); exact BK515.out) hb); have n2_ := Aside0.mk (below_step (by repeat (first | (with_reducible first | exact HB.out | apply below_alloc | apply pw_below_drewN | apply below_drew1 | refine below_set ?_ GE514.out | refine below_set ?_ GE515.out) | exact HB.out)) hb); have n3_ := Aside0.mk (hbox); have n4_ := Aside0.mk ((by rw [hg]; exact (below_size (by repeat (first | (with_reducible first | exact HB.out | apply below_alloc | apply pw_below_drewN | apply below_drew1 | refine below_set ?_ GE514.out | refine below_set ?_ GE515.out) | exact HB.out))) : w.heap.size ≤ gb516)); have n5_ := Aside0.mk ((by rw [hg]; exact (below_size (by repeat (first | (with_reducible first | exact HB.out | apply below_alloc | apply pw_below_drewN | apply below_drew1 | refine below_set ?_ GE514.out | refine below_set ?_ GE515.out) | exact HB.out))) : w.heap.size ≤ gb516)); have n6_ := Aside0.mk ((by rw [hg]; exact Nat.ne_of_lt (blk_lt (g := gb514) (o := .cells #[.int .i64 a0_0, .int .i64 a0_1] 23 (0, 0)) (by (with_reducible repeat (first | refine blk_drewN ?_ _ | refine blk_drew ?_ | refine blk_alloc ?_ _)); exact BK514.out)) : gb514 ≠ gb516)); have n7_ := Aside0.mk ((by rw [hg]; exact Nat.ne_of_gt (blk_lt (g := gb514) (o := .cells #[.int .i64 a0_0, .int .i64 a0_1] 23 (0, 0)) (by (with_reducible repeat (first | refine blk_drewN ?_ _ | refine blk_drew ?_ | refine blk_alloc ?_ _)); exact BK514.out)) : gb516 ≠ gb514)); have n8_ := Aside0.mk ((by rw [hg]; exact Nat.ne_of_lt (blk_lt (g := gb515) (o := .cells #[.int .i64 a1_0, .int .i64 a1_1] 23 (0, 0)) (by (with_reducible repeat (first | refine blk_drewN ?_ _ | refine blk_drew ?_ | refine blk_alloc ?_ _)); exact BK515.out)) : gb515 ≠ gb516)); have n9_ := Aside0.mk ((by rw [hg]; exact Nat.ne_of_gt (blk_lt (g := gb515) (o := .cells #[.int .i64 a1_0, .int .i64 a1_1] 23 (0, 0)) (by (with_reducible repeat (first | refine blk_drewN ?_ _ | refine blk_drew ?_ | refine blk_alloc ?_ _)); exact BK515.out)) : gb516 ≠ gb515)); clear BK514; clear BK515; clear HB; have BK514 := n0_; have BK515 := n1_; have HB := n2_; have BK516 := n3_; have GW516 := n4_; have GE516 := n5_; have NB514_516 := n6_; have NB516_514 := n7_; have NB515_516 := n8_; have NB516_515 := n9_; clear n0_ n1_ n2_ n3_ n4_ n5_ n6_ n7_ n8_ n9_; clear hb hbox hg))
  (try simp only [Act.put, List.setIfInBounds_toArray, List.set_cons_zero, List.set_cons_succ])
  go_cut [30] (fun v30 wc => ∃ (kq : Nat) (x30_3 : Bool), v30 = .bool x30_3 ∧ Aside0 (ballcocklaw01_RatOrder.j0 kq x30_3 a0_0 a0_1 a1_0 a1_1 a2_0 a2_1 = some r) ∧ Aside0 (kq ≤ k) ∧ Aside0 (wc.heap[gb514]? = some (.cells #[.int .i64 a0_0, .int .i64 a0_1] 23 (0, 0))) ∧ Aside0 (wc.heap[gb515]? = some (.cells #[.int .i64 a1_0, .int .i64 a1_1] 23 (0, 0))) ∧ Aside0 (wc.heap[gb516]? = some (.cells #[.int .i64 a2_0, .int .i64 a2_1] 23 (0, 0))) ∧ Aside0 (Below w.heap.size w wc))
  case first =>
    have H := HC4.out
    clear HC4
    replace H := Option.bind_eq_some_iff.mp H
    obtain ⟨t517, A80, H⟩ := H
    replace H : (if t517 = true then ((rat_Right.f k a0_0 a0_1).bind fun t518 => (if t518 = true then ((rat_Right.f k a1_0 a1_1).bind fun t519 => (if t519 = true then ((rat_Right.f k a2_0 a2_1).bind fun t520 => (ballcocklaw01_RatOrder.j0 k (!t520) a0_0 a0_1 a1_0 a1_1 a2_0 a2_1)) else (ballcocklaw01_RatOrder.j0 k true a0_0 a0_1 a1_0 a1_1 a2_0 a2_1))) else (ballcocklaw01_RatOrder.j0 k true a0_0 a0_1 a1_0 a1_1 a2_0 a2_1))) else (ballcocklaw01_RatOrder.j0 k true a0_0 a0_1 a1_0 a1_1 a2_0 a2_1)) = some r := H
    have A8 := Aside0.mk A80
    clear A80
    by_cases c9 : t517 = true
    · subst c9
      have H1 : ((rat_Right.f k a0_0 a0_1).bind fun t518 => (if t518 = true then ((rat_Right.f k a1_0 a1_1).bind fun t519 => (if t519 = true then ((rat_Right.f k a2_0 a2_1).bind fun t520 => (ballcocklaw01_RatOrder.j0 k (!t520) a0_0 a0_1 a1_0 a1_1 a2_0 a2_1)) else (ballcocklaw01_RatOrder.j0 k true a0_0 a0_1 a1_0 a1_1 a2_0 a2_1))) else (ballcocklaw01_RatOrder.j0 k true a0_0 a0_1 a1_0 a1_1 a2_0 a2_1))) = some r := by rw [if_pos rfl] at H; exact H
      clear H
      have H := H1
      clear H1
      replace H := Option.bind_eq_some_iff.mp H
      obtain ⟨t518, A100, H⟩ := H
      replace H : (if t518 = true then ((rat_Right.f k a1_0 a1_1).bind fun t519 => (if t519 = true then ((rat_Right.f k a2_0 a2_1).bind fun t520 => (ballcocklaw01_RatOrder.j0 k (!t520) a0_0 a0_1 a1_0 a1_1 a2_0 a2_1)) else (ballcocklaw01_RatOrder.j0 k true a0_0 a0_1 a1_0 a1_1 a2_0 a2_1))) else (ballcocklaw01_RatOrder.j0 k true a0_0 a0_1 a1_0 a1_1 a2_0 a2_1)) = some r := H
      have A10 := Aside0.mk A100
      clear A100
      by_cases c11 : t518 = true
      · subst c11
        have H1 : ((rat_Right.f k a1_0 a1_1).bind fun t519 => (if t519 = true then ((rat_Right.f k a2_0 a2_1).bind fun t520 => (ballcocklaw01_RatOrder.j0 k (!t520) a0_0 a0_1 a1_0 a1_1 a2_0 a2_1)) else (ballcocklaw01_RatOrder.j0 k true a0_0 a0_1 a1_0 a1_1 a2_0 a2_1))) = some r := by rw [if_pos rfl] at H; exact H
        clear H
        have H := H1
        clear H1
        replace H := Option.bind_eq_some_iff.mp H
        obtain ⟨t519, A120, H⟩ := H
        replace H : (if t519 = true then ((rat_Right.f k a2_0 a2_1).bind fun t520 => (ballcocklaw01_RatOrder.j0 k (!t520) a0_0 a0_1 a1_0 a1_1 a2_0 a2_1)) else (ballcocklaw01_RatOrder.j0 k true a0_0 a0_1 a1_0 a1_1 a2_0 a2_1)) = some r := H
        have A12 := Aside0.mk A120
        clear A120
        by_cases c13 : t519 = true
        · subst c13
          have H1 : ((rat_Right.f k a2_0 a2_1).bind fun t520 => (ballcocklaw01_RatOrder.j0 k (!t520) a0_0 a0_1 a1_0 a1_1 a2_0 a2_1)) = some r := by rw [if_pos rfl] at H; exact H
          clear H
          have H := H1
          clear H1
          replace H := Option.bind_eq_some_iff.mp H
          obtain ⟨t520, A140, H⟩ := H
          replace H : (ballcocklaw01_RatOrder.j0 k (!t520) a0_0 a0_1 a1_0 a1_1 a2_0 a2_1) = some r := H
          have A14 := Aside0.mk A140
          clear A140
          have H' := Aside0.mk H
          clear H
          go_wp2_with (first | ((with_reducible refine gate_callee (f := 11) rfl ?_); refine goesL_ (some 14) rfl rfl Try.func11 (by kernel_rfl) rfl #[] rfl (by (try simp only [List.map_toArray, List.map_cons, List.map_nil]); first | done | rfl | (simp only [List.length_drop, List.length_take]; rfl)) ?_; (with_reducible refine (ballcocklaw01_awake.calls k  true _ A8.out).mono ?_); rintro e w15 ⟨rfl, hb⟩; refine ⟨_, rfl, ?_⟩; have n0_ := Aside0.mk (blk_below (g := gb514) (o := .cells #[.int .i64 a0_0, .int .i64 a0_1] 23 (0, 0)) (by (with_reducible repeat (first | refine blk_drewN ?_ _ | refine blk_drew ?_ | refine blk_alloc ?_ _)); exact BK514.out) hb); have n1_ := Aside0.mk (blk_below (g := gb515) (o := .cells #[.int .i64 a1_0, .int .i64 a1_1] 23 (0, 0)) (by (with_reducible repeat (first | refine blk_drewN ?_ _ | refine blk_drew ?_ | refine blk_alloc ?_ _)); exact BK515.out) hb); have n2_ := Aside0.mk (blk_below (g := gb516) (o := .cells #[.int .i64 a2_0, .int .i64 a2_1] 23 (0, 0)) (by (with_reducible repeat (first | refine blk_drewN ?_ _ | refine blk_drew ?_ | refine blk_alloc ?_ _)); exact BK516.out) hb); have n3_ := Aside0.mk (below_step (by repeat (first | (with_reducible first | exact HB.out | apply below_alloc | apply pw_below_drewN | apply below_drew1 | refine below_set ?_ GE514.out | refine below_set ?_ GE515.out | refine below_set ?_ GE516.out) | exact HB.out)) hb); clear BK514; clear BK515; clear BK516; clear HB; have BK514 := n0_; have BK515 := n1_; have BK516 := n2_; have HB := n3_; clear n0_ n1_ n2_ n3_; (try clear hb); (try clear hb2); (try clear hk); (try clear hi); have hnb16 := NB514_515.out; have hnc16 := NB515_514.out; have hnb17 := NB514_516.out; have hnc17 := NB516_514.out; have hcz18_0 : w15.cell? ⟨gb514, 0, none⟩ = some (.int .i64 a0_0) := (blk_cell BK514.out 0).trans rfl; have hcz18_1 : w15.cell? ⟨gb514, 1, none⟩ = some (.int .i64 a0_1) := (blk_cell BK514.out 1).trans rfl; have hfz18_0 := blk_frozen BK514.out 0; have hfz18_1 := blk_frozen BK514.out 1) | (go_at_call 12; (with_reducible refine (rat_Right.calls k a0_0 a0_1 true _ A10.out).mono ?_); rintro e w19 ⟨rfl, hb⟩; have n0_ := Aside0.mk (blk_below (g := gb514) (o := .cells #[.int .i64 a0_0, .int .i64 a0_1] 23 (0, 0)) (by (with_reducible repeat (first | refine blk_drewN ?_ _ | refine blk_drew ?_ | refine blk_alloc ?_ _)); exact BK514.out) hb); have n1_ := Aside0.mk (blk_below (g := gb515) (o := .cells #[.int .i64 a1_0, .int .i64 a1_1] 23 (0, 0)) (by (with_reducible repeat (first | refine blk_drewN ?_ _ | refine blk_drew ?_ | refine blk_alloc ?_ _)); exact BK515.out) hb); have n2_ := Aside0.mk (blk_below (g := gb516) (o := .cells #[.int .i64 a2_0, .int .i64 a2_1] 23 (0, 0)) (by (with_reducible repeat (first | refine blk_drewN ?_ _ | refine blk_drew ?_ | refine blk_alloc ?_ _)); exact BK516.out) hb); have n3_ := Aside0.mk (below_step (by repeat (first | (with_reducible first | exact HB.out | apply below_alloc | apply pw_below_drewN | apply below_drew1 | refine below_set ?_ GE514.out | refine below_set ?_ GE515.out | refine below_set ?_ GE516.out) | exact HB.out)) hb); clear BK514; clear BK515; clear BK516; clear HB; have BK514 := n0_; have BK515 := n1_; have BK516 := n2_; have HB := n3_; clear n0_ n1_ n2_ n3_; (try clear hb); (try clear hb2); (try clear hk); (try clear hi); have hnb20 := NB515_516.out; have hnc20 := NB516_515.out; have hcz21_0 : w19.cell? ⟨gb515, 0, none⟩ = some (.int .i64 a1_0) := (blk_cell BK515.out 0).trans rfl; have hcz21_1 : w19.cell? ⟨gb515, 1, none⟩ = some (.int .i64 a1_1) := (blk_cell BK515.out 1).trans rfl; have hfz21_0 := blk_frozen BK515.out 0; have hfz21_1 := blk_frozen BK515.out 1) | (go_at_call 12; (with_reducible refine (rat_Right.calls k a1_0 a1_1 true _ A12.out).mono ?_); rintro e w22 ⟨rfl, hb⟩; have n0_ := Aside0.mk (blk_below (g := gb514) (o := .cells #[.int .i64 a0_0, .int .i64 a0_1] 23 (0, 0)) (by (with_reducible repeat (first | refine blk_drewN ?_ _ | refine blk_drew ?_ | refine blk_alloc ?_ _)); exact BK514.out) hb); have n1_ := Aside0.mk (blk_below (g := gb515) (o := .cells #[.int .i64 a1_0, .int .i64 a1_1] 23 (0, 0)) (by (with_reducible repeat (first | refine blk_drewN ?_ _ | refine blk_drew ?_ | refine blk_alloc ?_ _)); exact BK515.out) hb); have n2_ := Aside0.mk (blk_below (g := gb516) (o := .cells #[.int .i64 a2_0, .int .i64 a2_1] 23 (0, 0)) (by (with_reducible repeat (first | refine blk_drewN ?_ _ | refine blk_drew ?_ | refine blk_alloc ?_ _)); exact BK516.out) hb); have n3_ := Aside0.mk (below_step (by repeat (first | (with_reducible first | exact HB.out | apply below_alloc | apply pw_below_drewN | apply below_drew1 | refine below_set ?_ GE514.out | refine below_set ?_ GE515.out | refine below_set ?_ GE516.out) | exact HB.out)) hb); clear BK514; clear BK515; clear BK516; clear HB; have BK514 := n0_; have BK515 := n1_; have BK516 := n2_; have HB := n3_; clear n0_ n1_ n2_ n3_; (try clear hb); (try clear hb2); (try clear hk); (try clear hi); have hcz23_0 : w22.cell? ⟨gb516, 0, none⟩ = some (.int .i64 a2_0) := (blk_cell BK516.out 0).trans rfl; have hcz23_1 : w22.cell? ⟨gb516, 1, none⟩ = some (.int .i64 a2_1) := (blk_cell BK516.out 1).trans rfl; have hfz23_0 := blk_frozen BK516.out 0; have hfz23_1 := blk_frozen BK516.out 1) | (go_at_call 12; (with_reducible refine (rat_Right.calls k a2_0 a2_1 t520 _ A14.out).mono ?_); rintro e w24 ⟨rfl, hb⟩; have n0_ := Aside0.mk (blk_below (g := gb514) (o := .cells #[.int .i64 a0_0, .int .i64 a0_1] 23 (0, 0)) (by (with_reducible repeat (first | refine blk_drewN ?_ _ | refine blk_drew ?_ | refine blk_alloc ?_ _)); exact BK514.out) hb); have n1_ := Aside0.mk (blk_below (g := gb515) (o := .cells #[.int .i64 a1_0, .int .i64 a1_1] 23 (0, 0)) (by (with_reducible repeat (first | refine blk_drewN ?_ _ | refine blk_drew ?_ | refine blk_alloc ?_ _)); exact BK515.out) hb); have n2_ := Aside0.mk (blk_below (g := gb516) (o := .cells #[.int .i64 a2_0, .int .i64 a2_1] 23 (0, 0)) (by (with_reducible repeat (first | refine blk_drewN ?_ _ | refine blk_drew ?_ | refine blk_alloc ?_ _)); exact BK516.out) hb); have n3_ := Aside0.mk (below_step (by repeat (first | (with_reducible first | exact HB.out | apply below_alloc | apply pw_below_drewN | apply below_drew1 | refine below_set ?_ GE514.out | refine below_set ?_ GE515.out | refine below_set ?_ GE516.out) | exact HB.out)) hb); clear BK514; clear BK515; clear BK516; clear HB; have BK514 := n0_; have BK515 := n1_; have BK516 := n2_; have HB := n3_; clear n0_ n1_ n2_ n3_; (try clear hb); (try clear hb2); (try clear hk); (try clear hi)))
          go_meet
          case rel => exact ⟨_, (!t520), (by first | rfl | (simp; done) | (simp [*]; done)), H', ⟨by first | omega | exact Nat.le_refl _⟩, ⟨by (with_reducible repeat (first | refine blk_drewN ?_ _ | refine blk_drew ?_ | refine blk_alloc ?_ _)); exact BK514.out⟩, ⟨by (with_reducible repeat (first | refine blk_drewN ?_ _ | refine blk_drew ?_ | refine blk_alloc ?_ _)); exact BK515.out⟩, ⟨by (with_reducible repeat (first | refine blk_drewN ?_ _ | refine blk_drew ?_ | refine blk_alloc ?_ _)); exact BK516.out⟩, ⟨by repeat (first | (with_reducible first | exact HB.out | apply below_alloc | apply pw_below_drewN | apply below_drew1 | refine below_set ?_ GE514.out | refine below_set ?_ GE515.out | refine below_set ?_ GE516.out) | exact HB.out)⟩⟩
        · replace c13 := Bool.eq_false_iff.mpr c13
          subst c13
          have H1 : (ballcocklaw01_RatOrder.j0 k true a0_0 a0_1 a1_0 a1_1 a2_0 a2_1) = some r := by rw [if_neg (show ¬ (false = true) by decide)] at H; exact H
          clear H
          have H := H1
          clear H1
          have H' := Aside0.mk H
          clear H
          go_wp2_with (first | ((with_reducible refine gate_callee (f := 11) rfl ?_); refine goesL_ (some 14) rfl rfl Try.func11 (by kernel_rfl) rfl #[] rfl (by (try simp only [List.map_toArray, List.map_cons, List.map_nil]); first | done | rfl | (simp only [List.length_drop, List.length_take]; rfl)) ?_; (with_reducible refine (ballcocklaw01_awake.calls k  true _ A8.out).mono ?_); rintro e w25 ⟨rfl, hb⟩; refine ⟨_, rfl, ?_⟩; have n0_ := Aside0.mk (blk_below (g := gb514) (o := .cells #[.int .i64 a0_0, .int .i64 a0_1] 23 (0, 0)) (by (with_reducible repeat (first | refine blk_drewN ?_ _ | refine blk_drew ?_ | refine blk_alloc ?_ _)); exact BK514.out) hb); have n1_ := Aside0.mk (blk_below (g := gb515) (o := .cells #[.int .i64 a1_0, .int .i64 a1_1] 23 (0, 0)) (by (with_reducible repeat (first | refine blk_drewN ?_ _ | refine blk_drew ?_ | refine blk_alloc ?_ _)); exact BK515.out) hb); have n2_ := Aside0.mk (blk_below (g := gb516) (o := .cells #[.int .i64 a2_0, .int .i64 a2_1] 23 (0, 0)) (by (with_reducible repeat (first | refine blk_drewN ?_ _ | refine blk_drew ?_ | refine blk_alloc ?_ _)); exact BK516.out) hb); have n3_ := Aside0.mk (below_step (by repeat (first | (with_reducible first | exact HB.out | apply below_alloc | apply pw_below_drewN | apply below_drew1 | refine below_set ?_ GE514.out | refine below_set ?_ GE515.out | refine below_set ?_ GE516.out) | exact HB.out)) hb); clear BK514; clear BK515; clear BK516; clear HB; have BK514 := n0_; have BK515 := n1_; have BK516 := n2_; have HB := n3_; clear n0_ n1_ n2_ n3_; (try clear hb); (try clear hb2); (try clear hk); (try clear hi); have hnb26 := NB514_515.out; have hnc26 := NB515_514.out; have hnb27 := NB514_516.out; have hnc27 := NB516_514.out; have hcz28_0 : w25.cell? ⟨gb514, 0, none⟩ = some (.int .i64 a0_0) := (blk_cell BK514.out 0).trans rfl; have hcz28_1 : w25.cell? ⟨gb514, 1, none⟩ = some (.int .i64 a0_1) := (blk_cell BK514.out 1).trans rfl; have hfz28_0 := blk_frozen BK514.out 0; have hfz28_1 := blk_frozen BK514.out 1) | (go_at_call 12; (with_reducible refine (rat_Right.calls k a0_0 a0_1 true _ A10.out).mono ?_); rintro e w29 ⟨rfl, hb⟩; have n0_ := Aside0.mk (blk_below (g := gb514) (o := .cells #[.int .i64 a0_0, .int .i64 a0_1] 23 (0, 0)) (by (with_reducible repeat (first | refine blk_drewN ?_ _ | refine blk_drew ?_ | refine blk_alloc ?_ _)); exact BK514.out) hb); have n1_ := Aside0.mk (blk_below (g := gb515) (o := .cells #[.int .i64 a1_0, .int .i64 a1_1] 23 (0, 0)) (by (with_reducible repeat (first | refine blk_drewN ?_ _ | refine blk_drew ?_ | refine blk_alloc ?_ _)); exact BK515.out) hb); have n2_ := Aside0.mk (blk_below (g := gb516) (o := .cells #[.int .i64 a2_0, .int .i64 a2_1] 23 (0, 0)) (by (with_reducible repeat (first | refine blk_drewN ?_ _ | refine blk_drew ?_ | refine blk_alloc ?_ _)); exact BK516.out) hb); have n3_ := Aside0.mk (below_step (by repeat (first | (with_reducible first | exact HB.out | apply below_alloc | apply pw_below_drewN | apply below_drew1 | refine below_set ?_ GE514.out | refine below_set ?_ GE515.out | refine below_set ?_ GE516.out) | exact HB.out)) hb); clear BK514; clear BK515; clear BK516; clear HB; have BK514 := n0_; have BK515 := n1_; have BK516 := n2_; have HB := n3_; clear n0_ n1_ n2_ n3_; (try clear hb); (try clear hb2); (try clear hk); (try clear hi); have hnb30 := NB515_516.out; have hnc30 := NB516_515.out; have hcz31_0 : w29.cell? ⟨gb515, 0, none⟩ = some (.int .i64 a1_0) := (blk_cell BK515.out 0).trans rfl; have hcz31_1 : w29.cell? ⟨gb515, 1, none⟩ = some (.int .i64 a1_1) := (blk_cell BK515.out 1).trans rfl; have hfz31_0 := blk_frozen BK515.out 0; have hfz31_1 := blk_frozen BK515.out 1) | (go_at_call 12; (with_reducible refine (rat_Right.calls k a1_0 a1_1 false _ A12.out).mono ?_); rintro e w32 ⟨rfl, hb⟩; have n0_ := Aside0.mk (blk_below (g := gb514) (o := .cells #[.int .i64 a0_0, .int .i64 a0_1] 23 (0, 0)) (by (with_reducible repeat (first | refine blk_drewN ?_ _ | refine blk_drew ?_ | refine blk_alloc ?_ _)); exact BK514.out) hb); have n1_ := Aside0.mk (blk_below (g := gb515) (o := .cells #[.int .i64 a1_0, .int .i64 a1_1] 23 (0, 0)) (by (with_reducible repeat (first | refine blk_drewN ?_ _ | refine blk_drew ?_ | refine blk_alloc ?_ _)); exact BK515.out) hb); have n2_ := Aside0.mk (blk_below (g := gb516) (o := .cells #[.int .i64 a2_0, .int .i64 a2_1] 23 (0, 0)) (by (with_reducible repeat (first | refine blk_drewN ?_ _ | refine blk_drew ?_ | refine blk_alloc ?_ _)); exact BK516.out) hb); have n3_ := Aside0.mk (below_step (by repeat (first | (with_reducible first | exact HB.out | apply below_alloc | apply pw_below_drewN | apply below_drew1 | refine below_set ?_ GE514.out | refine below_set ?_ GE515.out | refine below_set ?_ GE516.out) | exact HB.out)) hb); clear BK514; clear BK515; clear BK516; clear HB; have BK514 := n0_; have BK515 := n1_; have BK516 := n2_; have HB := n3_; clear n0_ n1_ n2_ n3_; (try clear hb); (try clear hb2); (try clear hk); (try clear hi)))
          go_meet
          case rel => exact ⟨_, (true), (by first | rfl | (simp; done) | (simp [*]; done)), H', ⟨by first | omega | exact Nat.le_refl _⟩, ⟨by (with_reducible repeat (first | refine blk_drewN ?_ _ | refine blk_drew ?_ | refine blk_alloc ?_ _)); exact BK514.out⟩, ⟨by (with_reducible repeat (first | refine blk_drewN ?_ _ | refine blk_drew ?_ | refine blk_alloc ?_ _)); exact BK515.out⟩, ⟨by (with_reducible repeat (first | refine blk_drewN ?_ _ | refine blk_drew ?_ | refine blk_alloc ?_ _)); exact BK516.out⟩, ⟨by repeat (first | (with_reducible first | exact HB.out | apply below_alloc | apply pw_below_drewN | apply below_drew1 | refine below_set ?_ GE514.out | refine below_set ?_ GE515.out | refine below_set ?_ GE516.out) | exact HB.out)⟩⟩
      · replace c11 := Bool.eq_false_iff.mpr c11
        subst c11
        have H1 : (ballcocklaw01_RatOrder.j0 k true a0_0 a0_1 a1_0 a1_1 a2_0 a2_1) = some r := by rw [if_neg (show ¬ (false = true) by decide)] at H; exact H
        clear H
        have H := H1
        clear H1
        have H' := Aside0.mk H
        clear H
        go_wp2_with (first | ((with_reducible refine gate_callee (f := 11) rfl ?_); refine goesL_ (some 14) rfl rfl Try.func11 (by kernel_rfl) rfl #[] rfl (by (try simp only [List.map_toArray, List.map_cons, List.map_nil]); first | done | rfl | (simp only [List.length_drop, List.length_take]; rfl)) ?_; (with_reducible refine (ballcocklaw01_awake.calls k  true _ A8.out).mono ?_); rintro e w33 ⟨rfl, hb⟩; refine ⟨_, rfl, ?_⟩; have n0_ := Aside0.mk (blk_below (g := gb514) (o := .cells #[.int .i64 a0_0, .int .i64 a0_1] 23 (0, 0)) (by (with_reducible repeat (first | refine blk_drewN ?_ _ | refine blk_drew ?_ | refine blk_alloc ?_ _)); exact BK514.out) hb); have n1_ := Aside0.mk (blk_below (g := gb515) (o := .cells #[.int .i64 a1_0, .int .i64 a1_1] 23 (0, 0)) (by (with_reducible repeat (first | refine blk_drewN ?_ _ | refine blk_drew ?_ | refine blk_alloc ?_ _)); exact BK515.out) hb); have n2_ := Aside0.mk (blk_below (g := gb516) (o := .cells #[.int .i64 a2_0, .int .i64 a2_1] 23 (0, 0)) (by (with_reducible repeat (first | refine blk_drewN ?_ _ | refine blk_drew ?_ | refine blk_alloc ?_ _)); exact BK516.out) hb); have n3_ := Aside0.mk (below_step (by repeat (first | (with_reducible first | exact HB.out | apply below_alloc | apply pw_below_drewN | apply below_drew1 | refine below_set ?_ GE514.out | refine below_set ?_ GE515.out | refine below_set ?_ GE516.out) | exact HB.out)) hb); clear BK514; clear BK515; clear BK516; clear HB; have BK514 := n0_; have BK515 := n1_; have BK516 := n2_; have HB := n3_; clear n0_ n1_ n2_ n3_; (try clear hb); (try clear hb2); (try clear hk); (try clear hi); have hnb34 := NB514_515.out; have hnc34 := NB515_514.out; have hnb35 := NB514_516.out; have hnc35 := NB516_514.out; have hcz36_0 : w33.cell? ⟨gb514, 0, none⟩ = some (.int .i64 a0_0) := (blk_cell BK514.out 0).trans rfl; have hcz36_1 : w33.cell? ⟨gb514, 1, none⟩ = some (.int .i64 a0_1) := (blk_cell BK514.out 1).trans rfl; have hfz36_0 := blk_frozen BK514.out 0; have hfz36_1 := blk_frozen BK514.out 1) | (go_at_call 12; (with_reducible refine (rat_Right.calls k a0_0 a0_1 false _ A10.out).mono ?_); rintro e w37 ⟨rfl, hb⟩; have n0_ := Aside0.mk (blk_below (g := gb514) (o := .cells #[.int .i64 a0_0, .int .i64 a0_1] 23 (0, 0)) (by (with_reducible repeat (first | refine blk_drewN ?_ _ | refine blk_drew ?_ | refine blk_alloc ?_ _)); exact BK514.out) hb); have n1_ := Aside0.mk (blk_below (g := gb515) (o := .cells #[.int .i64 a1_0, .int .i64 a1_1] 23 (0, 0)) (by (with_reducible repeat (first | refine blk_drewN ?_ _ | refine blk_drew ?_ | refine blk_alloc ?_ _)); exact BK515.out) hb); have n2_ := Aside0.mk (blk_below (g := gb516) (o := .cells #[.int .i64 a2_0, .int .i64 a2_1] 23 (0, 0)) (by (with_reducible repeat (first | refine blk_drewN ?_ _ | refine blk_drew ?_ | refine blk_alloc ?_ _)); exact BK516.out) hb); have n3_ := Aside0.mk (below_step (by repeat (first | (with_reducible first | exact HB.out | apply below_alloc | apply pw_below_drewN | apply below_drew1 | refine below_set ?_ GE514.out | refine below_set ?_ GE515.out | refine below_set ?_ GE516.out) | exact HB.out)) hb); clear BK514; clear BK515; clear BK516; clear HB; have BK514 := n0_; have BK515 := n1_; have BK516 := n2_; have HB := n3_; clear n0_ n1_ n2_ n3_; (try clear hb); (try clear hb2); (try clear hk); (try clear hi)))
        go_meet
        case rel => exact ⟨_, (true), (by first | rfl | (simp; done) | (simp [*]; done)), H', ⟨by first | omega | exact Nat.le_refl _⟩, ⟨by (with_reducible repeat (first | refine blk_drewN ?_ _ | refine blk_drew ?_ | refine blk_alloc ?_ _)); exact BK514.out⟩, ⟨by (with_reducible repeat (first | refine blk_drewN ?_ _ | refine blk_drew ?_ | refine blk_alloc ?_ _)); exact BK515.out⟩, ⟨by (with_reducible repeat (first | refine blk_drewN ?_ _ | refine blk_drew ?_ | refine blk_alloc ?_ _)); exact BK516.out⟩, ⟨by repeat (first | (with_reducible first | exact HB.out | apply below_alloc | apply pw_below_drewN | apply below_drew1 | refine below_set ?_ GE514.out | refine below_set ?_ GE515.out | refine below_set ?_ GE516.out) | exact HB.out)⟩⟩
    · replace c9 := Bool.eq_false_iff.mpr c9
      subst c9
      have H1 : (ballcocklaw01_RatOrder.j0 k true a0_0 a0_1 a1_0 a1_1 a2_0 a2_1) = some r := by rw [if_neg (show ¬ (false = true) by decide)] at H; exact H
      clear H
      have H := H1
      clear H1
      have H' := Aside0.mk H
      clear H
      go_wp2_with (first | ((with_reducible refine gate_callee (f := 11) rfl ?_); refine goesL_ (some 14) rfl rfl Try.func11 (by kernel_rfl) rfl #[] rfl (by (try simp only [List.map_toArray, List.map_cons, List.map_nil]); first | done | rfl | (simp only [List.length_drop, List.length_take]; rfl)) ?_; (with_reducible refine (ballcocklaw01_awake.calls k  false _ A8.out).mono ?_); rintro e w38 ⟨rfl, hb⟩; refine ⟨_, rfl, ?_⟩; have n0_ := Aside0.mk (blk_below (g := gb514) (o := .cells #[.int .i64 a0_0, .int .i64 a0_1] 23 (0, 0)) (by (with_reducible repeat (first | refine blk_drewN ?_ _ | refine blk_drew ?_ | refine blk_alloc ?_ _)); exact BK514.out) hb); have n1_ := Aside0.mk (blk_below (g := gb515) (o := .cells #[.int .i64 a1_0, .int .i64 a1_1] 23 (0, 0)) (by (with_reducible repeat (first | refine blk_drewN ?_ _ | refine blk_drew ?_ | refine blk_alloc ?_ _)); exact BK515.out) hb); have n2_ := Aside0.mk (blk_below (g := gb516) (o := .cells #[.int .i64 a2_0, .int .i64 a2_1] 23 (0, 0)) (by (with_reducible repeat (first | refine blk_drewN ?_ _ | refine blk_drew ?_ | refine blk_alloc ?_ _)); exact BK516.out) hb); have n3_ := Aside0.mk (below_step (by repeat (first | (with_reducible first | exact HB.out | apply below_alloc | apply pw_below_drewN | apply below_drew1 | refine below_set ?_ GE514.out | refine below_set ?_ GE515.out | refine below_set ?_ GE516.out) | exact HB.out)) hb); clear BK514; clear BK515; clear BK516; clear HB; have BK514 := n0_; have BK515 := n1_; have BK516 := n2_; have HB := n3_; clear n0_ n1_ n2_ n3_; (try clear hb); (try clear hb2); (try clear hk); (try clear hi)))
      go_meet
      case rel => exact ⟨_, (true), (by first | rfl | (simp; done) | (simp [*]; done)), H', ⟨by first | omega | exact Nat.le_refl _⟩, ⟨by (with_reducible repeat (first | refine blk_drewN ?_ _ | refine blk_drew ?_ | refine blk_alloc ?_ _)); exact BK514.out⟩, ⟨by (with_reducible repeat (first | refine blk_drewN ?_ _ | refine blk_drew ?_ | refine blk_alloc ?_ _)); exact BK515.out⟩, ⟨by (with_reducible repeat (first | refine blk_drewN ?_ _ | refine blk_drew ?_ | refine blk_alloc ?_ _)); exact BK516.out⟩, ⟨by repeat (first | (with_reducible first | exact HB.out | apply below_alloc | apply pw_below_drewN | apply below_drew1 | refine below_set ?_ GE514.out | refine below_set ?_ GE515.out | refine below_set ?_ GE516.out) | exact HB.out)⟩⟩
  case rest =>
    clear HC4
    try clear c1
    try clear c2
    try clear p2
    try clear c3
    try clear c6
    try clear c9
    try clear c11
    try clear c13
    try clear c16
    try clear c17
    try clear c20
    try clear c26
    try clear c27
    try clear c30
    try clear c34
    try clear c35
    try clear hcz18_0
    try clear hcz18_1
    try clear hcz21_0
    try clear hcz21_1
    try clear hcz23_0
    try clear hcz23_1
    try clear hcz28_0
    try clear hcz28_1
    try clear hcz31_0
    try clear hcz31_1
    try clear hcz36_0
    try clear hcz36_1
    try clear hfz18_0
    try clear hfz18_1
    try clear hfz21_0
    try clear hfz21_1
    try clear hfz23_0
    try clear hfz23_1
    try clear hfz28_0
    try clear hfz28_1
    try clear hfz31_0
    try clear hfz31_1
    try clear hfz36_0
    try clear hfz36_1
    obtain ⟨kq, x30_3, rfl, HA, HJ3, BK514, BK515, BK516, HB⟩ := hcut
    cases kq with
    | zero => exact absurd HA.out (by simp [ballcocklaw01_RatOrder.j0])
    | succ kj3 =>
      have H := HA.out
      clear HA
      simp only [ballcocklaw01_RatOrder.j0] at H
      by_cases c39 : x30_3 = true
      · subst c39
        have H1 : ((ballcocklaw01_awake.f kj3).bind fun t521 => (some t521)) = some r := by rw [if_pos rfl] at H; exact H
        clear H
        have H := H1
        clear H1
        replace H := Option.bind_eq_some_iff.mp H
        obtain ⟨t521, A400, H⟩ := H
        replace H : (some t521) = some r := H
        have A40 := Aside0.mk A400
        clear A400
        obtain rfl := Option.some.inj H
        go_wp2_with (first | ((with_reducible refine gate_callee (f := 11) rfl ?_); refine goesL_ (some 31) rfl rfl Try.func11 (by kernel_rfl) rfl #[] rfl (by (try simp only [List.map_toArray, List.map_cons, List.map_nil]); first | done | rfl | (simp only [List.length_drop, List.length_take]; rfl)) ?_; (with_reducible refine (ballcocklaw01_awake.calls kj3  t521 _ A40.out).mono ?_); rintro e w41 ⟨rfl, hb⟩; refine ⟨_, rfl, ?_⟩; have n0_ := Aside0.mk (blk_below (g := gb514) (o := .cells #[.int .i64 a0_0, .int .i64 a0_1] 23 (0, 0)) (by (with_reducible repeat (first | refine blk_drewN ?_ _ | refine blk_drew ?_ | refine blk_alloc ?_ _)); exact BK514.out) hb); have n1_ := Aside0.mk (blk_below (g := gb515) (o := .cells #[.int .i64 a1_0, .int .i64 a1_1] 23 (0, 0)) (by (with_reducible repeat (first | refine blk_drewN ?_ _ | refine blk_drew ?_ | refine blk_alloc ?_ _)); exact BK515.out) hb); have n2_ := Aside0.mk (blk_below (g := gb516) (o := .cells #[.int .i64 a2_0, .int .i64 a2_1] 23 (0, 0)) (by (with_reducible repeat (first | refine blk_drewN ?_ _ | refine blk_drew ?_ | refine blk_alloc ?_ _)); exact BK516.out) hb); have n3_ := Aside0.mk (below_step (by repeat (first | (with_reducible first | exact HB.out | apply below_alloc | apply pw_below_drewN | apply below_drew1 | refine below_set ?_ GE514.out | refine below_set ?_ GE515.out | refine below_set ?_ GE516.out) | exact HB.out)) hb); clear BK514; clear BK515; clear BK516; clear HB; have BK514 := n0_; have BK515 := n1_; have BK516 := n2_; have HB := n3_; clear n0_ n1_ n2_ n3_; (try clear hb); (try clear hb2); (try clear hk); (try clear hi)))
        go_ret
        exact ⟨by first | rfl | (simp [errW_none, errW_some] <;> rfl) | (simp [*, errW_none, errW_some] <;> rfl), by repeat (first | (with_reducible first | exact HB.out | apply below_alloc | apply pw_below_drewN | apply below_drew1 | refine below_set ?_ GE514.out | refine below_set ?_ GE515.out | refine below_set ?_ GE516.out) | exact HB.out)⟩
      · replace c39 := Bool.eq_false_iff.mpr c39
        subst c39
        have H1 : ((rat_Compare.f kj3 a0_0 a0_1 a1_0 a1_1).bind fun t522 => ((rat_Compare.f kj3 a1_0 a1_1 a0_0 a0_1).bind fun t523 => (if t522 = (wrap64 (-t523)) then (ballcocklaw01_RatOrder.j1 kj3 t522 ((t522 == 0) != (a0_0 == a1_0 && (a0_1 == a1_1))) a0_0 a0_1 a1_0 a1_1 a2_0 a2_1) else (ballcocklaw01_RatOrder.j1 kj3 t522 true a0_0 a0_1 a1_0 a1_1 a2_0 a2_1)))) = some r := by rw [if_neg (show ¬ (false = true) by decide)] at H; exact H
        clear H
        have H := H1
        clear H1
        replace H := Option.bind_eq_some_iff.mp H
        obtain ⟨t522, A420, H⟩ := H
        replace H : ((rat_Compare.f kj3 a1_0 a1_1 a0_0 a0_1).bind fun t523 => (if t522 = (wrap64 (-t523)) then (ballcocklaw01_RatOrder.j1 kj3 t522 ((t522 == 0) != (a0_0 == a1_0 && (a0_1 == a1_1))) a0_0 a0_1 a1_0 a1_1 a2_0 a2_1) else (ballcocklaw01_RatOrder.j1 kj3 t522 true a0_0 a0_1 a1_0 a1_1 a2_0 a2_1))) = some r := H
        have A42 := Aside0.mk A420
        clear A420
        have HC43 := Aside0.mk H
        clear H
        have hnb44 := NB514_515.out
        have hnc44 := NB515_514.out
        have hnb45 := NB514_516.out
        have hnc45 := NB516_514.out
        have hcz46_0 : wc.cell? ⟨gb514, 0, none⟩ = some (.int .i64 a0_0) := (blk_cell BK514.out 0).trans rfl
        have hcz46_1 : wc.cell? ⟨gb514, 1, none⟩ = some (.int .i64 a0_1) := (blk_cell BK514.out 1).trans rfl
        have hfz46_0 := blk_frozen BK514.out 0
        have hfz46_1 := blk_frozen BK514.out 1
        have hnb47 := NB515_516.out
        have hnc47 := NB516_515.out
        have hcz48_0 : wc.cell? ⟨gb515, 0, none⟩ = some (.int .i64 a1_0) := (blk_cell BK515.out 0).trans rfl
        have hcz48_1 : wc.cell? ⟨gb515, 1, none⟩ = some (.int .i64 a1_1) := (blk_cell BK515.out 1).trans rfl
        have hfz48_0 := blk_frozen BK515.out 0
        have hfz48_1 := blk_frozen BK515.out 1
        go_upto_region 4 with (first | ((with_reducible refine gate_callee (f := 15) rfl ?_); refine goesL_ (some 34) rfl rfl Try.func15 (by kernel_rfl) rfl #[.agg #[.int .i64 a0_0, .int .i64 a0_1], .agg #[.int .i64 a1_0, .int .i64 a1_1]] rfl (by (try simp only [List.map_toArray, List.map_cons, List.map_nil]); first | done | rfl | (simp only [List.length_drop, List.length_take]; rfl)) ?_; (with_reducible refine (rat_Compare.calls kj3 a0_0 a0_1 a1_0 a1_1 t522 _ A42.out).mono ?_); rintro e w49 ⟨rfl, hb⟩; refine ⟨_, rfl, ?_⟩; have n0_ := Aside0.mk (blk_below (g := gb514) (o := .cells #[.int .i64 a0_0, .int .i64 a0_1] 23 (0, 0)) (by (with_reducible repeat (first | refine blk_drewN ?_ _ | refine blk_drew ?_ | refine blk_alloc ?_ _)); exact BK514.out) hb); have n1_ := Aside0.mk (blk_below (g := gb515) (o := .cells #[.int .i64 a1_0, .int .i64 a1_1] 23 (0, 0)) (by (with_reducible repeat (first | refine blk_drewN ?_ _ | refine blk_drew ?_ | refine blk_alloc ?_ _)); exact BK515.out) hb); have n2_ := Aside0.mk (blk_below (g := gb516) (o := .cells #[.int .i64 a2_0, .int .i64 a2_1] 23 (0, 0)) (by (with_reducible repeat (first | refine blk_drewN ?_ _ | refine blk_drew ?_ | refine blk_alloc ?_ _)); exact BK516.out) hb); have n3_ := Aside0.mk (below_step (by repeat (first | (with_reducible first | exact HB.out | apply below_alloc | apply pw_below_drewN | apply below_drew1 | refine below_set ?_ GE514.out | refine below_set ?_ GE515.out | refine below_set ?_ GE516.out) | exact HB.out)) hb); clear BK514; clear BK515; clear BK516; clear HB; have BK514 := n0_; have BK515 := n1_; have BK516 := n2_; have HB := n3_; clear n0_ n1_ n2_ n3_; (try clear hb); (try clear hb2); (try clear hk); (try clear hi)))
        (try simp only [Act.put, List.setIfInBounds_toArray, List.set_cons_zero, List.set_cons_succ])
        go_cut [48] (fun v48 wc => ∃ (kq : Nat) (x48_42 : Bool), v48 = .bool x48_42 ∧ Aside0 (ballcocklaw01_RatOrder.j1 kq t522 x48_42 a0_0 a0_1 a1_0 a1_1 a2_0 a2_1 = some r) ∧ Aside0 (kq ≤ kj3) ∧ Aside0 (wc.heap[gb514]? = some (.cells #[.int .i64 a0_0, .int .i64 a0_1] 23 (0, 0))) ∧ Aside0 (wc.heap[gb515]? = some (.cells #[.int .i64 a1_0, .int .i64 a1_1] 23 (0, 0))) ∧ Aside0 (wc.heap[gb516]? = some (.cells #[.int .i64 a2_0, .int .i64 a2_1] 23 (0, 0))) ∧ Aside0 (Below w.heap.size w wc))
        case first =>
          have H := HC43.out
          clear HC43
          replace H := Option.bind_eq_some_iff.mp H
          obtain ⟨t523, A500, H⟩ := H
          replace H : (if t522 = (wrap64 (-t523)) then (ballcocklaw01_RatOrder.j1 kj3 t522 ((t522 == 0) != (a0_0 == a1_0 && (a0_1 == a1_1))) a0_0 a0_1 a1_0 a1_1 a2_0 a2_1) else (ballcocklaw01_RatOrder.j1 kj3 t522 true a0_0 a0_1 a1_0 a1_1 a2_0 a2_1)) = some r := H
          have A50 := Aside0.mk A500
          clear A500
          by_cases c51 : t522 = (wrap64 (-t523))
          · rw [if_pos c51] at H
            have c51b0 : (t522 == (wrap64 (-t523))) = true := beq_iff_eq.mpr c51
            have c51b1 : (t522 != (wrap64 (-t523))) = false := bne_eq_false_iff_eq.mpr c51
            clear c51
            (first | rw [c51b0] | (simp only [i64_w, i32_w]; rw [c51b0]) | skip)
            have H' := Aside0.mk H
            clear H
            have hnb52 := NB515_514.out
            have hnc52 := NB514_515.out
            have hnb53 := NB515_516.out
            have hnc53 := NB516_515.out
            have hcz54_0 : w49.cell? ⟨gb515, 0, none⟩ = some (.int .i64 a1_0) := (blk_cell BK515.out 0).trans rfl
            have hcz54_1 : w49.cell? ⟨gb515, 1, none⟩ = some (.int .i64 a1_1) := (blk_cell BK515.out 1).trans rfl
            have hfz54_0 := blk_frozen BK515.out 0
            have hfz54_1 := blk_frozen BK515.out 1
            have hnb55 := NB514_516.out
            have hnc55 := NB516_514.out
            have hcz56_0 : w49.cell? ⟨gb514, 0, none⟩ = some (.int .i64 a0_0) := (blk_cell BK514.out 0).trans rfl
            have hcz56_1 : w49.cell? ⟨gb514, 1, none⟩ = some (.int .i64 a0_1) := (blk_cell BK514.out 1).trans rfl
            have hfz56_0 := blk_frozen BK514.out 0
            have hfz56_1 := blk_frozen BK514.out 1
            go_wp2_with (first | ((with_reducible refine gate_callee (f := 15) rfl ?_); refine goesL_ (some 38) rfl rfl Try.func15 (by kernel_rfl) rfl #[.agg #[.int .i64 a1_0, .int .i64 a1_1], .agg #[.int .i64 a0_0, .int .i64 a0_1]] rfl (by (try simp only [List.map_toArray, List.map_cons, List.map_nil]); first | done | rfl | (simp only [List.length_drop, List.length_take]; rfl)) ?_; (with_reducible refine (rat_Compare.calls kj3 a1_0 a1_1 a0_0 a0_1 t523 _ A50.out).mono ?_); rintro e w57 ⟨rfl, hb⟩; refine ⟨_, rfl, ?_⟩; have n0_ := Aside0.mk (blk_below (g := gb514) (o := .cells #[.int .i64 a0_0, .int .i64 a0_1] 23 (0, 0)) (by (with_reducible repeat (first | refine blk_drewN ?_ _ | refine blk_drew ?_ | refine blk_alloc ?_ _)); exact BK514.out) hb); have n1_ := Aside0.mk (blk_below (g := gb515) (o := .cells #[.int .i64 a1_0, .int .i64 a1_1] 23 (0, 0)) (by (with_reducible repeat (first | refine blk_drewN ?_ _ | refine blk_drew ?_ | refine blk_alloc ?_ _)); exact BK515.out) hb); have n2_ := Aside0.mk (blk_below (g := gb516) (o := .cells #[.int .i64 a2_0, .int .i64 a2_1] 23 (0, 0)) (by (with_reducible repeat (first | refine blk_drewN ?_ _ | refine blk_drew ?_ | refine blk_alloc ?_ _)); exact BK516.out) hb); have n3_ := Aside0.mk (below_step (by repeat (first | (with_reducible first | exact HB.out | apply below_alloc | apply pw_below_drewN | apply below_drew1 | refine below_set ?_ GE514.out | refine below_set ?_ GE515.out | refine below_set ?_ GE516.out) | exact HB.out)) hb); clear BK514; clear BK515; clear BK516; clear HB; have BK514 := n0_; have BK515 := n1_; have BK516 := n2_; have HB := n3_; clear n0_ n1_ n2_ n3_; (try clear hb); (try clear hb2); (try clear hk); (try clear hi); have hcz58_0 : w57.cell? ⟨gb514, 0, none⟩ = some (.int .i64 a0_0) := (blk_cell BK514.out 0).trans rfl; have hcz58_1 : w57.cell? ⟨gb514, 1, none⟩ = some (.int .i64 a0_1) := (blk_cell BK514.out 1).trans rfl; have hfz58_0 := blk_frozen BK514.out 0; have hfz58_1 := blk_frozen BK514.out 1; have hcz59_0 : w57.cell? ⟨gb515, 0, none⟩ = some (.int .i64 a1_0) := (blk_cell BK515.out 0).trans rfl; have hcz59_1 : w57.cell? ⟨gb515, 1, none⟩ = some (.int .i64 a1_1) := (blk_cell BK515.out 1).trans rfl; have hfz59_0 := blk_frozen BK515.out 0; have hfz59_1 := blk_frozen BK515.out 1))
            go_meet
            case rel => exact ⟨_, (((t522 == 0) != (a0_0 == a1_0 && (a0_1 == a1_1)))), (by first | rfl | (simp; done) | (simp [*]; done)), H', ⟨by have := HJ3.out; first | omega | exact Nat.le_refl _⟩, ⟨by (with_reducible repeat (first | refine blk_drewN ?_ _ | refine blk_drew ?_ | refine blk_alloc ?_ _)); exact BK514.out⟩, ⟨by (with_reducible repeat (first | refine blk_drewN ?_ _ | refine blk_drew ?_ | refine blk_alloc ?_ _)); exact BK515.out⟩, ⟨by (with_reducible repeat (first | refine blk_drewN ?_ _ | refine blk_drew ?_ | refine blk_alloc ?_ _)); exact BK516.out⟩, ⟨by repeat (first | (with_reducible first | exact HB.out | apply below_alloc | apply pw_below_drewN | apply below_drew1 | refine below_set ?_ GE514.out | refine below_set ?_ GE515.out | refine below_set ?_ GE516.out) | exact HB.out)⟩⟩
          · rw [if_neg c51] at H
            have c51b0 : (t522 == (wrap64 (-t523))) = false := beq_eq_false_iff_ne.mpr c51
            have c51b1 : (t522 != (wrap64 (-t523))) = true := bne_iff_ne.mpr c51
            (first | rw [c51b0] | (simp only [i64_w, i32_w]; rw [c51b0]) | skip)
            have H' := Aside0.mk H
            clear H
            have hnb60 := NB515_514.out
            have hnc60 := NB514_515.out
            have hnb61 := NB515_516.out
            have hnc61 := NB516_515.out
            have hcz62_0 : w49.cell? ⟨gb515, 0, none⟩ = some (.int .i64 a1_0) := (blk_cell BK515.out 0).trans rfl
            have hcz62_1 : w49.cell? ⟨gb515, 1, none⟩ = some (.int .i64 a1_1) := (blk_cell BK515.out 1).trans rfl
            have hfz62_0 := blk_frozen BK515.out 0
            have hfz62_1 := blk_frozen BK515.out 1
            have hnb63 := NB514_516.out
            have hnc63 := NB516_514.out
            have hcz64_0 : w49.cell? ⟨gb514, 0, none⟩ = some (.int .i64 a0_0) := (blk_cell BK514.out 0).trans rfl
            have hcz64_1 : w49.cell? ⟨gb514, 1, none⟩ = some (.int .i64 a0_1) := (blk_cell BK514.out 1).trans rfl
            have hfz64_0 := blk_frozen BK514.out 0
            have hfz64_1 := blk_frozen BK514.out 1
            go_wp2_with (first | ((with_reducible refine gate_callee (f := 15) rfl ?_); refine goesL_ (some 38) rfl rfl Try.func15 (by kernel_rfl) rfl #[.agg #[.int .i64 a1_0, .int .i64 a1_1], .agg #[.int .i64 a0_0, .int .i64 a0_1]] rfl (by (try simp only [List.map_toArray, List.map_cons, List.map_nil]); first | done | rfl | (simp only [List.length_drop, List.length_take]; rfl)) ?_; (with_reducible refine (rat_Compare.calls kj3 a1_0 a1_1 a0_0 a0_1 t523 _ A50.out).mono ?_); rintro e w65 ⟨rfl, hb⟩; refine ⟨_, rfl, ?_⟩; have n0_ := Aside0.mk (blk_below (g := gb514) (o := .cells #[.int .i64 a0_0, .int .i64 a0_1] 23 (0, 0)) (by (with_reducible repeat (first | refine blk_drewN ?_ _ | refine blk_drew ?_ | refine blk_alloc ?_ _)); exact BK514.out) hb); have n1_ := Aside0.mk (blk_below (g := gb515) (o := .cells #[.int .i64 a1_0, .int .i64 a1_1] 23 (0, 0)) (by (with_reducible repeat (first | refine blk_drewN ?_ _ | refine blk_drew ?_ | refine blk_alloc ?_ _)); exact BK515.out) hb); have n2_ := Aside0.mk (blk_below (g := gb516) (o := .cells #[.int .i64 a2_0, .int .i64 a2_1] 23 (0, 0)) (by (with_reducible repeat (first | refine blk_drewN ?_ _ | refine blk_drew ?_ | refine blk_alloc ?_ _)); exact BK516.out) hb); have n3_ := Aside0.mk (below_step (by repeat (first | (with_reducible first | exact HB.out | apply below_alloc | apply pw_below_drewN | apply below_drew1 | refine below_set ?_ GE514.out | refine below_set ?_ GE515.out | refine below_set ?_ GE516.out) | exact HB.out)) hb); clear BK514; clear BK515; clear BK516; clear HB; have BK514 := n0_; have BK515 := n1_; have BK516 := n2_; have HB := n3_; clear n0_ n1_ n2_ n3_; (try clear hb); (try clear hb2); (try clear hk); (try clear hi)))
            go_meet
            case rel => exact ⟨_, (true), (by first | rfl | (simp; done) | (simp [*]; done)), H', ⟨by have := HJ3.out; first | omega | exact Nat.le_refl _⟩, ⟨by (with_reducible repeat (first | refine blk_drewN ?_ _ | refine blk_drew ?_ | refine blk_alloc ?_ _)); exact BK514.out⟩, ⟨by (with_reducible repeat (first | refine blk_drewN ?_ _ | refine blk_drew ?_ | refine blk_alloc ?_ _)); exact BK515.out⟩, ⟨by (with_reducible repeat (first | refine blk_drewN ?_ _ | refine blk_drew ?_ | refine blk_alloc ?_ _)); exact BK516.out⟩, ⟨by repeat (first | (with_reducible first | exact HB.out | apply below_alloc | apply pw_below_drewN | apply below_drew1 | refine below_set ?_ GE514.out | refine below_set ?_ GE515.out | refine below_set ?_ GE516.out) | exact HB.out)⟩⟩
        case rest =>
          clear HC43
          try clear c1
          try clear c2
          try clear p2
          try clear c3
          try clear c4
          try clear c5
          try clear c6
          try clear p6
          try clear c9
          try clear c11
          try clear c13
          try clear c15
          try clear c16
          try clear c17
          try clear c20
          try clear c26
          try clear c27
          try clear c30
          try clear c34
          try clear c35
          try clear c39
          try clear c44
          try clear c45
          try clear c47
          try clear c51
          try clear c51b0
          try clear c51b1
          try clear c52
          try clear c53
          try clear c55
          try clear c60
          try clear c61
          try clear c63
          try clear p64
          try clear hcz18_0
          try clear hcz18_1
          try clear hcz21_0
          try clear hcz21_1
          try clear hcz23_0
          try clear hcz23_1
          try clear hcz28_0
          try clear hcz28_1
          try clear hcz31_0
          try clear hcz31_1
          try clear hcz36_0
          try clear hcz36_1
          try clear hcz46_0
          try clear hcz46_1
          try clear hcz48_0
          try clear hcz48_1
          try clear hcz54_0
          try clear hcz54_1
          try clear hcz56_0
          try clear hcz56_1
          try clear hcz58_0
          try clear hcz58_1
          try clear hcz59_0
          try clear hcz59_1
          try clear hcz62_0
          try clear hcz62_1
          try clear hcz64_0
          try clear hcz64_1
          try clear hfz18_0
          try clear hfz18_1
          try clear hfz21_0
          try clear hfz21_1
          try clear hfz23_0
          try clear hfz23_1
          try clear hfz28_0
          try clear hfz28_1
          try clear hfz31_0
          try clear hfz31_1
          try clear hfz36_0
          try clear hfz36_1
          try clear hfz46_0
          try clear hfz46_1
          try clear hfz48_0
          try clear hfz48_1
          try clear hfz54_0
          try clear hfz54_1
          try clear hfz56_0
          try clear hfz56_1
          try clear hfz58_0
          try clear hfz58_1
          try clear hfz59_0
          try clear hfz59_1
          try clear hfz62_0
          try clear hfz62_1
          try clear hfz64_0
          try clear hfz64_1
          try clear p2
          obtain ⟨kq, x48_42, rfl, HA, HJ42, BK514, BK515, BK516, HB⟩ := hcut
          cases kq with
          | zero => exact absurd HA.out (by simp [ballcocklaw01_RatOrder.j1])
          | succ kj42 =>
            have H := HA.out
            clear HA
            simp only [ballcocklaw01_RatOrder.j1] at H
            by_cases c66 : x48_42 = true
            · subst c66
              have H1 : (some false) = some r := by rw [if_pos rfl] at H; exact H
              clear H
              have H := H1
              clear H1
              subst hr_
              exact absurd H (by simp)
            · replace c66 := Bool.eq_false_iff.mpr c66
              subst c66
              have H1 : ((rat_Sub.f kj42 a0_0 a0_1 a1_0 a1_1).bind fun bt524 => (if bt524.2.2 = 0 then (ballcocklaw01_RatOrder.j2 kj42 t522 ((decide (bt524.1 > 0)) != (decide (t522 > 0))) a0_0 a0_1 a1_0 a1_1 a2_0 a2_1) else (ballcocklaw01_RatOrder.j2 kj42 t522 false a0_0 a0_1 a1_0 a1_1 a2_0 a2_1))) = some r := by rw [if_neg (show ¬ (false = true) by decide)] at H; exact H
              clear H
              have H := H1
              clear H1
              replace H := Option.bind_eq_some_iff.mp H
              obtain ⟨⟨t524, t525, t526⟩, A670, H⟩ := H
              replace H : (if t526 = 0 then (ballcocklaw01_RatOrder.j2 kj42 t522 ((decide (t524 > 0)) != (decide (t522 > 0))) a0_0 a0_1 a1_0 a1_1 a2_0 a2_1) else (ballcocklaw01_RatOrder.j2 kj42 t522 false a0_0 a0_1 a1_0 a1_1 a2_0 a2_1)) = some r := H
              have A67 := Aside0.mk A670
              clear A670
              have HC68 := Aside0.mk H
              clear H
              have hnb69 := NB514_515.out
              have hnc69 := NB515_514.out
              have hnb70 := NB514_516.out
              have hnc70 := NB516_514.out
              have hcz71_0 : wc.cell? ⟨gb514, 0, none⟩ = some (.int .i64 a0_0) := (blk_cell BK514.out 0).trans rfl
              have hcz71_1 : wc.cell? ⟨gb514, 1, none⟩ = some (.int .i64 a0_1) := (blk_cell BK514.out 1).trans rfl
              have hfz71_0 := blk_frozen BK514.out 0
              have hfz71_1 := blk_frozen BK514.out 1
              have hnb72 := NB515_516.out
              have hnc72 := NB516_515.out
              have hcz73_0 : wc.cell? ⟨gb515, 0, none⟩ = some (.int .i64 a1_0) := (blk_cell BK515.out 0).trans rfl
              have hcz73_1 : wc.cell? ⟨gb515, 1, none⟩ = some (.int .i64 a1_1) := (blk_cell BK515.out 1).trans rfl
              have hfz73_0 := blk_frozen BK515.out 0
              have hfz73_1 := blk_frozen BK515.out 1
              go_upto_region 7 with (first | ((with_reducible refine gate_callee (f := 18) rfl ?_); refine goesL_ (some 52) rfl rfl Try.func18 (by kernel_rfl) rfl #[.agg #[.int .i64 a0_0, .int .i64 a0_1], .agg #[.int .i64 a1_0, .int .i64 a1_1]] rfl (by (try simp only [List.map_toArray, List.map_cons, List.map_nil]); first | done | rfl | (simp only [List.length_drop, List.length_take]; rfl)) ?_; (with_reducible refine (rat_Sub.calls kj42 a0_0 a0_1 a1_0 a1_1 t524 t525 t526 _ A67.out).mono ?_); rintro e w74 ⟨rfl, hb⟩; refine ⟨_, rfl, ?_⟩; have n0_ := Aside0.mk (blk_below (g := gb514) (o := .cells #[.int .i64 a0_0, .int .i64 a0_1] 23 (0, 0)) (by (with_reducible repeat (first | refine blk_drewN ?_ _ | refine blk_drew ?_ | refine blk_alloc ?_ _)); exact BK514.out) hb); have n1_ := Aside0.mk (blk_below (g := gb515) (o := .cells #[.int .i64 a1_0, .int .i64 a1_1] 23 (0, 0)) (by (with_reducible repeat (first | refine blk_drewN ?_ _ | refine blk_drew ?_ | refine blk_alloc ?_ _)); exact BK515.out) hb); have n2_ := Aside0.mk (blk_below (g := gb516) (o := .cells #[.int .i64 a2_0, .int .i64 a2_1] 23 (0, 0)) (by (with_reducible repeat (first | refine blk_drewN ?_ _ | refine blk_drew ?_ | refine blk_alloc ?_ _)); exact BK516.out) hb); have n3_ := Aside0.mk (below_step (by repeat (first | (with_reducible first | exact HB.out | apply below_alloc | apply pw_below_drewN | apply below_drew1 | refine below_set ?_ GE514.out | refine below_set ?_ GE515.out | refine below_set ?_ GE516.out) | exact HB.out)) hb); clear BK514; clear BK515; clear BK516; clear HB; have BK514 := n0_; have BK515 := n1_; have BK516 := n2_; have HB := n3_; clear n0_ n1_ n2_ n3_; (try clear hb); (try clear hb2); (try clear hk); (try clear hi)) | ((with_reducible refine gate_dst (N := 8) rfl ?_); refine box_event ?hg (N := 8) ?hd (cs := #[.int .i64 0, .int .i64 0]) (t := 23) ?hr ?_; (case hd => rfl); (case hg => rfl); (case hr => first | (go_simp; done) | (go_simp; rfl)); intro gb527 hg w75 hbox hb; have n0_ := Aside0.mk (blk_below (g := gb514) (o := .cells #[.int .i64 a0_0, .int .i64 a0_1] 23 (0, 0)) (by (with_reducible repeat (first | refine blk_drewN ?_ _ | refine blk_drew ?_ | refine blk_alloc ?_ _)); exact BK514.out) hb); have n1_ := Aside0.mk (blk_below (g := gb515) (o := .cells #[.int .i64 a1_0, .int .i64 a1_1] 23 (0, 0)) (by (with_reducible repeat (first | refine blk_drewN ?_ _ | refine blk_drew ?_ | refine blk_alloc ?_ _)); exact BK515.out) hb); have n2_ := Aside0.mk (blk_below (g := gb516) (o := .cells #[.int .i64 a2_0, .int .i64 a2_1] 23 (0, 0)) (by (with_reducible repeat (first | refine blk_drewN ?_ _ | refine blk_drew ?_ | refine blk_alloc ?_ _)); exact BK516.out) hb); have n3_ := Aside0.mk (below_step (by repeat (first | (with_reducible first | exact HB.out | apply below_alloc | apply pw_below_drewN | apply below_drew1 | refine below_set ?_ GE514.out | refine below_set ?_ GE515.out | refine below_set ?_ GE516.out) | exact HB.out)) hb); have n4_ := Aside0.mk (hbox); have n5_ := Aside0.mk ((by rw [hg]; exact (below_size (by repeat (first | (with_reducible first | exact HB.out | apply below_alloc | apply pw_below_drewN | apply below_drew1 | refine below_set ?_ GE514.out | refine below_set ?_ GE515.out | refine below_set ?_ GE516.out) | exact HB.out))) : w.heap.size ≤ gb527)); have n6_ := Aside0.mk ((by rw [hg]; exact (below_size (by repeat (first | (with_reducible first | exact HB.out | apply below_alloc | apply pw_below_drewN | apply below_drew1 | refine below_set ?_ GE514.out | refine below_set ?_ GE515.out | refine below_set ?_ GE516.out) | exact HB.out))) : w.heap.size ≤ gb527)); have n7_ := Aside0.mk ((by rw [hg]; exact Nat.ne_of_lt (blk_lt (g := gb514) (o := .cells #[.int .i64 a0_0, .int .i64 a0_1] 23 (0, 0)) (by (with_reducible repeat (first | refine blk_drewN ?_ _ | refine blk_drew ?_ | refine blk_alloc ?_ _)); exact BK514.out)) : gb514 ≠ gb527)); have n8_ := Aside0.mk ((by rw [hg]; exact Nat.ne_of_gt (blk_lt (g := gb514) (o := .cells #[.int .i64 a0_0, .int .i64 a0_1] 23 (0, 0)) (by (with_reducible repeat (first | refine blk_drewN ?_ _ | refine blk_drew ?_ | refine blk_alloc ?_ _)); exact BK514.out)) : gb527 ≠ gb514)); have n9_ := Aside0.mk ((by rw [hg]; exact Nat.ne_of_lt (blk_lt (g := gb515) (o := .cells #[.int .i64 a1_0, .int .i64 a1_1] 23 (0, 0)) (by (with_reducible repeat (first | refine blk_drewN ?_ _ | refine blk_drew ?_ | refine blk_alloc ?_ _)); exact BK515.out)) : gb515 ≠ gb527)); have n10_ := Aside0.mk ((by rw [hg]; exact Nat.ne_of_gt (blk_lt (g := gb515) (o := .cells #[.int .i64 a1_0, .int .i64 a1_1] 23 (0, 0)) (by (with_reducible repeat (first | refine blk_drewN ?_ _ | refine blk_drew ?_ | refine blk_alloc ?_ _)); exact BK515.out)) : gb527 ≠ gb515)); have n11_ := Aside0.mk ((by rw [hg]; exact Nat.ne_of_lt (blk_lt (g := gb516) (o := .cells #[.int .i64 a2_0, .int .i64 a2_1] 23 (0, 0)) (by (with_reducible repeat (first | refine blk_drewN ?_ _ | refine blk_drew ?_ | refine blk_alloc ?_ _)); exact BK516.out)) : gb516 ≠ gb527)); have n12_ := Aside0.mk ((by rw [hg]; exact Nat.ne_of_gt (blk_lt (g := gb516) (o := .cells #[.int .i64 a2_0, .int .i64 a2_1] 23 (0, 0)) (by (with_reducible repeat (first | refine blk_drewN ?_ _ | refine blk_drew ?_ | refine blk_alloc ?_ _)); exact BK516.out)) : gb527 ≠ gb516)); clear BK514; clear BK515; clear BK516; clear HB; have BK514 := n0_; have BK515 := n1_; have BK516 := n2_; have HB := n3_; have BK527 := n4_; have GW527 := n5_; have GE527 := n6_; have NB514_527 := n7_; have NB527_514 := n8_; have NB515_527 := n9_; have NB527_515 := n10_; have NB516_527 := n11_; have NB527_516 := n12_; clear n0_ n1_ n2_ n3_ n4_ n5_ n6_ n7_ n8_ n9_ n10_ n11_ n12_; clear hb hbox hg; have hnb76 := NB527_514.out; have hnc76 := NB514_527.out; have hnb77 := NB527_515.out; have hnc77 := NB515_527.out; have hnb78 := NB527_516.out; have hnc78 := NB516_527.out; have hcz79_0 : w75.cell? ⟨gb527, 0, none⟩ = some (.int .i64 0) := (blk_cell BK527.out 0).trans rfl; have hcz79_1 : w75.cell? ⟨gb527, 1, none⟩ = some (.int .i64 0) := (blk_cell BK527.out 1).trans rfl; have hfz79_0 := blk_frozen BK527.out 0; have hfz79_1 := blk_frozen BK527.out 1))
              (try simp only [Act.put, List.setIfInBounds_toArray, List.set_cons_zero, List.set_cons_succ])
              go_cut [64] (fun v64 wc => ∃ (kq : Nat) (x64_67 : Bool), v64 = .bool x64_67 ∧ Aside0 (ballcocklaw01_RatOrder.j2 kq t522 x64_67 a0_0 a0_1 a1_0 a1_1 a2_0 a2_1 = some r) ∧ Aside0 (kq ≤ kj42) ∧ Aside0 (wc.heap[gb514]? = some (.cells #[.int .i64 a0_0, .int .i64 a0_1] 23 (0, 0))) ∧ Aside0 (wc.heap[gb515]? = some (.cells #[.int .i64 a1_0, .int .i64 a1_1] 23 (0, 0))) ∧ Aside0 (wc.heap[gb516]? = some (.cells #[.int .i64 a2_0, .int .i64 a2_1] 23 (0, 0))) ∧ Aside0 (wc.heap[gb527]? = some (.cells #[.int .i64 t524, .int .i64 t525] 23 (0, 0))) ∧ Aside0 (Below w.heap.size w wc))
              case first =>
                have H := HC68.out
                clear HC68
                by_cases c80 : t526 = 0
                · rw [if_pos c80] at H
                  have c80b0 : (t526 == 0) = true := beq_iff_eq.mpr c80
                  have c80b1 : (t526 != 0) = false := bne_eq_false_iff_eq.mpr c80
                  clear c80
                  (first | rw [c80b0] | (simp only [i64_w, i32_w]; rw [c80b0]) | skip)
                  have H' := Aside0.mk H
                  clear H
                  have hnb81 := NB527_514.out
                  have hnc81 := NB514_527.out
                  have hnb82 := NB527_515.out
                  have hnc82 := NB515_527.out
                  have hnb83 := NB527_516.out
                  have hnc83 := NB516_527.out
                  have hcz84_0 : w75.cell? ⟨gb527, 0, none⟩ = some (.int .i64 0) := (blk_cell BK527.out 0).trans rfl
                  have hcz84_1 : w75.cell? ⟨gb527, 1, none⟩ = some (.int .i64 0) := (blk_cell BK527.out 1).trans rfl
                  have hfz84_0 := blk_frozen BK527.out 0
                  have hfz84_1 := blk_frozen BK527.out 1
                  go_wp2
                  go_meet
                  case rel => exact ⟨_, (((decide (t524 > 0)) != (decide (t522 > 0)))), (by first | rfl | (simp; done) | (simp [*]; done)), H', ⟨by have := HJ3.out; have := HJ42.out; first | omega | exact Nat.le_refl _⟩, ⟨by (with_reducible repeat (first | refine blk_drewN ?_ _ | refine blk_drew ?_ | refine blk_alloc ?_ _)); refine blk_far ?_ NB514_527.out _; (with_reducible repeat (first | refine blk_drewN ?_ _ | refine blk_drew ?_ | refine blk_alloc ?_ _)); refine blk_far ?_ NB514_527.out _; (with_reducible repeat (first | refine blk_drewN ?_ _ | refine blk_drew ?_ | refine blk_alloc ?_ _)); exact BK514.out⟩, ⟨by (with_reducible repeat (first | refine blk_drewN ?_ _ | refine blk_drew ?_ | refine blk_alloc ?_ _)); refine blk_far ?_ NB515_527.out _; (with_reducible repeat (first | refine blk_drewN ?_ _ | refine blk_drew ?_ | refine blk_alloc ?_ _)); refine blk_far ?_ NB515_527.out _; (with_reducible repeat (first | refine blk_drewN ?_ _ | refine blk_drew ?_ | refine blk_alloc ?_ _)); exact BK515.out⟩, ⟨by (with_reducible repeat (first | refine blk_drewN ?_ _ | refine blk_drew ?_ | refine blk_alloc ?_ _)); refine blk_far ?_ NB516_527.out _; (with_reducible repeat (first | refine blk_drewN ?_ _ | refine blk_drew ?_ | refine blk_alloc ?_ _)); refine blk_far ?_ NB516_527.out _; (with_reducible repeat (first | refine blk_drewN ?_ _ | refine blk_drew ?_ | refine blk_alloc ?_ _)); exact BK516.out⟩, ⟨by (with_reducible repeat (first | refine blk_drewN ?_ _ | refine blk_drew ?_ | refine blk_alloc ?_ _)); refine blk_put (cs := #[.int .i64 t524, .int .i64 0]) ?_ 1 _ rfl; (with_reducible repeat (first | refine blk_drewN ?_ _ | refine blk_drew ?_ | refine blk_alloc ?_ _)); refine blk_put (cs := #[.int .i64 0, .int .i64 0]) ?_ 0 _ rfl; (with_reducible repeat (first | refine blk_drewN ?_ _ | refine blk_drew ?_ | refine blk_alloc ?_ _)); exact BK527.out⟩, ⟨by repeat (first | (with_reducible first | exact HB.out | apply below_alloc | apply pw_below_drewN | apply below_drew1 | refine below_set ?_ GE514.out | refine below_set ?_ GE515.out | refine below_set ?_ GE516.out | refine below_set ?_ GE527.out) | exact HB.out)⟩⟩
                · rw [if_neg c80] at H
                  have c80b0 : (t526 == 0) = false := beq_eq_false_iff_ne.mpr c80
                  have c80b1 : (t526 != 0) = true := bne_iff_ne.mpr c80
                  (first | rw [c80b0] | (simp only [i64_w, i32_w]; rw [c80b0]) | skip)
                  have H' := Aside0.mk H
                  clear H
                  go_wp2
                  go_meet
                  case rel => exact ⟨_, (false), (by first | rfl | (simp; done) | (simp [*]; done)), H', ⟨by have := HJ3.out; have := HJ42.out; first | omega | exact Nat.le_refl _⟩, ⟨by (with_reducible repeat (first | refine blk_drewN ?_ _ | refine blk_drew ?_ | refine blk_alloc ?_ _)); refine blk_far ?_ NB514_527.out _; (with_reducible repeat (first | refine blk_drewN ?_ _ | refine blk_drew ?_ | refine blk_alloc ?_ _)); refine blk_far ?_ NB514_527.out _; (with_reducible repeat (first | refine blk_drewN ?_ _ | refine blk_drew ?_ | refine blk_alloc ?_ _)); exact BK514.out⟩, ⟨by (with_reducible repeat (first | refine blk_drewN ?_ _ | refine blk_drew ?_ | refine blk_alloc ?_ _)); refine blk_far ?_ NB515_527.out _; (with_reducible repeat (first | refine blk_drewN ?_ _ | refine blk_drew ?_ | refine blk_alloc ?_ _)); refine blk_far ?_ NB515_527.out _; (with_reducible repeat (first | refine blk_drewN ?_ _ | refine blk_drew ?_ | refine blk_alloc ?_ _)); exact BK515.out⟩, ⟨by (with_reducible repeat (first | refine blk_drewN ?_ _ | refine blk_drew ?_ | refine blk_alloc ?_ _)); refine blk_far ?_ NB516_527.out _; (with_reducible repeat (first | refine blk_drewN ?_ _ | refine blk_drew ?_ | refine blk_alloc ?_ _)); refine blk_far ?_ NB516_527.out _; (with_reducible repeat (first | refine blk_drewN ?_ _ | refine blk_drew ?_ | refine blk_alloc ?_ _)); exact BK516.out⟩, ⟨by (with_reducible repeat (first | refine blk_drewN ?_ _ | refine blk_drew ?_ | refine blk_alloc ?_ _)); refine blk_put (cs := #[.int .i64 t524, .int .i64 0]) ?_ 1 _ rfl; (with_reducible repeat (first | refine blk_drewN ?_ _ | refine blk_drew ?_ | refine blk_alloc ?_ _)); refine blk_put (cs := #[.int .i64 0, .int .i64 0]) ?_ 0 _ rfl; (with_reducible repeat (first | refine blk_drewN ?_ _ | refine blk_drew ?_ | refine blk_alloc ?_ _)); exact BK527.out⟩, ⟨by repeat (first | (with_reducible first | exact HB.out | apply below_alloc | apply pw_below_drewN | apply below_drew1 | refine below_set ?_ GE514.out | refine below_set ?_ GE515.out | refine below_set ?_ GE516.out | refine below_set ?_ GE527.out) | exact HB.out)⟩⟩
              case rest =>
                clear HC68
                try clear c1
                try clear c2
                try clear p2
                try clear c3
                try clear c4
                try clear c5
                try clear c6
                try clear p6
                try clear c7
                try clear c8
                try clear c9
                try clear c11
                try clear c13
                try clear c15
                try clear c16
                try clear c17
                try clear c18
                try clear c20
                try clear c26
                try clear c27
                try clear c30
                try clear c34
                try clear c35
                try clear c39
                try clear c44
                try clear c45
                try clear c47
                try clear c51
                try clear c51b0
                try clear c51b1
                try clear c52
                try clear c53
                try clear c55
                try clear c60
                try clear c61
                try clear c63
                try clear p64
                try clear c66
                try clear c69
                try clear c70
                try clear c72
                try clear c76
                try clear c77
                try clear c78
                try clear c80
                try clear c80b0
                try clear c80b1
                try clear c81
                try clear c82
                try clear c83
                try clear hcz18_0
                try clear hcz18_1
                try clear hcz21_0
                try clear hcz21_1
                try clear hcz23_0
                try clear hcz23_1
                try clear hcz28_0
                try clear hcz28_1
                try clear hcz31_0
                try clear hcz31_1
                try clear hcz36_0
                try clear hcz36_1
                try clear hcz46_0
                try clear hcz46_1
                try clear hcz48_0
                try clear hcz48_1
                try clear hcz54_0
                try clear hcz54_1
                try clear hcz56_0
                try clear hcz56_1
                try clear hcz58_0
                try clear hcz58_1
                try clear hcz59_0
                try clear hcz59_1
                try clear hcz62_0
                try clear hcz62_1
                try clear hcz64_0
                try clear hcz64_1
                try clear hcz71_0
                try clear hcz71_1
                try clear hcz73_0
                try clear hcz73_1
                try clear hcz79_0
                try clear hcz79_1
                try clear hcz84_0
                try clear hcz84_1
                try clear hfz18_0
                try clear hfz18_1
                try clear hfz21_0
                try clear hfz21_1
                try clear hfz23_0
                try clear hfz23_1
                try clear hfz28_0
                try clear hfz28_1
                try clear hfz31_0
                try clear hfz31_1
                try clear hfz36_0
                try clear hfz36_1
                try clear hfz46_0
                try clear hfz46_1
                try clear hfz48_0
                try clear hfz48_1
                try clear hfz54_0
                try clear hfz54_1
                try clear hfz56_0
                try clear hfz56_1
                try clear hfz58_0
                try clear hfz58_1
                try clear hfz59_0
                try clear hfz59_1
                try clear hfz62_0
                try clear hfz62_1
                try clear hfz64_0
                try clear hfz64_1
                try clear hfz71_0
                try clear hfz71_1
                try clear hfz73_0
                try clear hfz73_1
                try clear hfz79_0
                try clear hfz79_1
                try clear hfz84_0
                try clear hfz84_1
                try clear p2
                try clear p6
                try clear p64
                obtain ⟨kq, x64_67, rfl, HA, HJ67, BK514, BK515, BK516, BK527, HB⟩ := hcut
                cases kq with
                | zero => exact absurd HA.out (by simp [ballcocklaw01_RatOrder.j2])
                | succ kj67 =>
                  have H := HA.out
                  clear HA
                  simp only [ballcocklaw01_RatOrder.j2] at H
                  by_cases c85 : x64_67 = true
                  · subst c85
                    have H1 : (some false) = some r := by rw [if_pos rfl] at H; exact H
                    clear H
                    have H := H1
                    clear H1
                    subst hr_
                    exact absurd H (by simp)
                  · replace c85 := Bool.eq_false_iff.mpr c85
                    subst c85
                    have H1 : ((rat_Add.f kj67 a0_0 a0_1 a2_0 a2_1).bind fun bt528 => ((rat_Add.f kj67 a1_0 a1_1 a2_0 a2_1).bind fun bt532 => (if bt528.2.2 = 0 then (if bt532.2.2 = 0 then ((rat_Compare.f kj67 bt528.1 bt528.2.1 bt532.1 bt532.2.1).bind fun t536 => (some (t536 == t522))) else (some true)) else (some true)))) = some r := by rw [if_neg (show ¬ (false = true) by decide)] at H; exact H
                    clear H
                    have H := H1
                    clear H1
                    replace H := Option.bind_eq_some_iff.mp H
                    obtain ⟨⟨t528, t529, t530⟩, A860, H⟩ := H
                    replace H : ((rat_Add.f kj67 a1_0 a1_1 a2_0 a2_1).bind fun bt532 => (if t530 = 0 then (if bt532.2.2 = 0 then ((rat_Compare.f kj67 t528 t529 bt532.1 bt532.2.1).bind fun t536 => (some (t536 == t522))) else (some true)) else (some true))) = some r := H
                    have A86 := Aside0.mk A860
                    clear A860
                    replace H := Option.bind_eq_some_iff.mp H
                    obtain ⟨⟨t532, t533, t534⟩, A870, H⟩ := H
                    replace H : (if t530 = 0 then (if t534 = 0 then ((rat_Compare.f kj67 t528 t529 t532 t533).bind fun t536 => (some (t536 == t522))) else (some true)) else (some true)) = some r := H
                    have A87 := Aside0.mk A870
                    clear A870
                    by_cases c88 : t530 = 0
                    · rw [if_pos c88] at H
                      have c88b0 : (t530 == 0) = true := beq_iff_eq.mpr c88
                      have c88b1 : (t530 != 0) = false := bne_eq_false_iff_eq.mpr c88
                      clear c88
                      by_cases c89 : t534 = 0
                      · rw [if_pos c89] at H
                        have c89b0 : (t534 == 0) = true := beq_iff_eq.mpr c89
                        have c89b1 : (t534 != 0) = false := bne_eq_false_iff_eq.mpr c89
                        clear c89
                        replace H := Option.bind_eq_some_iff.mp H
                        obtain ⟨t536, A900, H⟩ := H
                        replace H : (some (t536 == t522)) = some r := H
                        have A90 := Aside0.mk A900
                        clear A900
                        obtain rfl := Option.some.inj H
                        have hnb91 := NB514_515.out
                        have hnc91 := NB515_514.out
                        have hnb92 := NB514_516.out
                        have hnc92 := NB516_514.out
                        have hnb93 := NB514_527.out
                        have hnc93 := NB527_514.out
                        have hcz94_0 : wc.cell? ⟨gb514, 0, none⟩ = some (.int .i64 a0_0) := (blk_cell BK514.out 0).trans rfl
                        have hcz94_1 : wc.cell? ⟨gb514, 1, none⟩ = some (.int .i64 a0_1) := (blk_cell BK514.out 1).trans rfl
                        have hfz94_0 := blk_frozen BK514.out 0
                        have hfz94_1 := blk_frozen BK514.out 1
                        have hnb95 := NB516_515.out
                        have hnc95 := NB515_516.out
                        have hnb96 := NB516_527.out
                        have hnc96 := NB527_516.out
                        have hcz97_0 : wc.cell? ⟨gb516, 0, none⟩ = some (.int .i64 a2_0) := (blk_cell BK516.out 0).trans rfl
                        have hcz97_1 : wc.cell? ⟨gb516, 1, none⟩ = some (.int .i64 a2_1) := (blk_cell BK516.out 1).trans rfl
                        have hfz97_0 := blk_frozen BK516.out 0
                        have hfz97_1 := blk_frozen BK516.out 1
                        go_wp2_with (first | ((with_reducible refine gate_callee (f := 13) rfl ?_); refine goesL_ (some 68) rfl rfl Try.func13 (by kernel_rfl) rfl #[.agg #[.int .i64 a0_0, .int .i64 a0_1], .agg #[.int .i64 a2_0, .int .i64 a2_1]] rfl (by (try simp only [List.map_toArray, List.map_cons, List.map_nil]); first | done | rfl | (simp only [List.length_drop, List.length_take]; rfl)) ?_; (with_reducible refine (rat_Add.calls kj67 a0_0 a0_1 a2_0 a2_1 t528 t529 t530 _ A86.out).mono ?_); rintro e w98 ⟨rfl, hb⟩; refine ⟨_, rfl, ?_⟩; have n0_ := Aside0.mk (blk_below (g := gb514) (o := .cells #[.int .i64 a0_0, .int .i64 a0_1] 23 (0, 0)) (by (with_reducible repeat (first | refine blk_drewN ?_ _ | refine blk_drew ?_ | refine blk_alloc ?_ _)); exact BK514.out) hb); have n1_ := Aside0.mk (blk_below (g := gb515) (o := .cells #[.int .i64 a1_0, .int .i64 a1_1] 23 (0, 0)) (by (with_reducible repeat (first | refine blk_drewN ?_ _ | refine blk_drew ?_ | refine blk_alloc ?_ _)); exact BK515.out) hb); have n2_ := Aside0.mk (blk_below (g := gb516) (o := .cells #[.int .i64 a2_0, .int .i64 a2_1] 23 (0, 0)) (by (with_reducible repeat (first | refine blk_drewN ?_ _ | refine blk_drew ?_ | refine blk_alloc ?_ _)); exact BK516.out) hb); have n3_ := Aside0.mk (blk_below (g := gb527) (o := .cells #[.int .i64 t524, .int .i64 t525] 23 (0, 0)) (by (with_reducible repeat (first | refine blk_drewN ?_ _ | refine blk_drew ?_ | refine blk_alloc ?_ _)); exact BK527.out) hb); have n4_ := Aside0.mk (below_step (by repeat (first | (with_reducible first | exact HB.out | apply below_alloc | apply pw_below_drewN | apply below_drew1 | refine below_set ?_ GE514.out | refine below_set ?_ GE515.out | refine below_set ?_ GE516.out | refine below_set ?_ GE527.out) | exact HB.out)) hb); clear BK514; clear BK515; clear BK516; clear BK527; clear HB; have BK514 := n0_; have BK515 := n1_; have BK516 := n2_; have BK527 := n3_; have HB := n4_; clear n0_ n1_ n2_ n3_ n4_; (try clear hb); (try clear hb2); (try clear hk); (try clear hi)) | ((with_reducible refine gate_dst (N := 10) rfl ?_); refine box_event ?hg (N := 10) ?hd (cs := #[.int .i64 0, .int .i64 0]) (t := 23) ?hr ?_; (case hd => rfl); (case hg => rfl); (case hr => first | (go_simp; done) | (go_simp; rfl)); intro gb531 hg w99 hbox hb; have n0_ := Aside0.mk (blk_below (g := gb514) (o := .cells #[.int .i64 a0_0, .int .i64 a0_1] 23 (0, 0)) (by (with_reducible repeat (first | refine blk_drewN ?_ _ | refine blk_drew ?_ | refine blk_alloc ?_ _)); exact BK514.out) hb); have n1_ := Aside0.mk (blk_below (g := gb515) (o := .cells #[.int .i64 a1_0, .int .i64 a1_1] 23 (0, 0)) (by (with_reducible repeat (first | refine blk_drewN ?_ _ | refine blk_drew ?_ | refine blk_alloc ?_ _)); exact BK515.out) hb); have n2_ := Aside0.mk (blk_below (g := gb516) (o := .cells #[.int .i64 a2_0, .int .i64 a2_1] 23 (0, 0)) (by (with_reducible repeat (first | refine blk_drewN ?_ _ | refine blk_drew ?_ | refine blk_alloc ?_ _)); exact BK516.out) hb); have n3_ := Aside0.mk (blk_below (g := gb527) (o := .cells #[.int .i64 t524, .int .i64 t525] 23 (0, 0)) (by (with_reducible repeat (first | refine blk_drewN ?_ _ | refine blk_drew ?_ | refine blk_alloc ?_ _)); exact BK527.out) hb); have n4_ := Aside0.mk (below_step (by repeat (first | (with_reducible first | exact HB.out | apply below_alloc | apply pw_below_drewN | apply below_drew1 | refine below_set ?_ GE514.out | refine below_set ?_ GE515.out | refine below_set ?_ GE516.out | refine below_set ?_ GE527.out) | exact HB.out)) hb); have n5_ := Aside0.mk (hbox); have n6_ := Aside0.mk ((by rw [hg]; exact (below_size (by repeat (first | (with_reducible first | exact HB.out | apply below_alloc | apply pw_below_drewN | apply below_drew1 | refine below_set ?_ GE514.out | refine below_set ?_ GE515.out | refine below_set ?_ GE516.out | refine below_set ?_ GE527.out) | exact HB.out))) : w.heap.size ≤ gb531)); have n7_ := Aside0.mk ((by rw [hg]; exact (below_size (by repeat (first | (with_reducible first | exact HB.out | apply below_alloc | apply pw_below_drewN | apply below_drew1 | refine below_set ?_ GE514.out | refine below_set ?_ GE515.out | refine below_set ?_ GE516.out | refine below_set ?_ GE527.out) | exact HB.out))) : w.heap.size ≤ gb531)); have n8_ := Aside0.mk ((by rw [hg]; exact Nat.ne_of_lt (blk_lt (g := gb514) (o := .cells #[.int .i64 a0_0, .int .i64 a0_1] 23 (0, 0)) (by (with_reducible repeat (first | refine blk_drewN ?_ _ | refine blk_drew ?_ | refine blk_alloc ?_ _)); exact BK514.out)) : gb514 ≠ gb531)); have n9_ := Aside0.mk ((by rw [hg]; exact Nat.ne_of_gt (blk_lt (g := gb514) (o := .cells #[.int .i64 a0_0, .int .i64 a0_1] 23 (0, 0)) (by (with_reducible repeat (first | refine blk_drewN ?_ _ | refine blk_drew ?_ | refine blk_alloc ?_ _)); exact BK514.out)) : gb531 ≠ gb514)); have n10_ := Aside0.mk ((by rw [hg]; exact Nat.ne_of_lt (blk_lt (g := gb515) (o := .cells #[.int .i64 a1_0, .int .i64 a1_1] 23 (0, 0)) (by (with_reducible repeat (first | refine blk_drewN ?_ _ | refine blk_drew ?_ | refine blk_alloc ?_ _)); exact BK515.out)) : gb515 ≠ gb531)); have n11_ := Aside0.mk ((by rw [hg]; exact Nat.ne_of_gt (blk_lt (g := gb515) (o := .cells #[.int .i64 a1_0, .int .i64 a1_1] 23 (0, 0)) (by (with_reducible repeat (first | refine blk_drewN ?_ _ | refine blk_drew ?_ | refine blk_alloc ?_ _)); exact BK515.out)) : gb531 ≠ gb515)); have n12_ := Aside0.mk ((by rw [hg]; exact Nat.ne_of_lt (blk_lt (g := gb516) (o := .cells #[.int .i64 a2_0, .int .i64 a2_1] 23 (0, 0)) (by (with_reducible repeat (first | refine blk_drewN ?_ _ | refine blk_drew ?_ | refine blk_alloc ?_ _)); exact BK516.out)) : gb516 ≠ gb531)); have n13_ := Aside0.mk ((by rw [hg]; exact Nat.ne_of_gt (blk_lt (g := gb516) (o := .cells #[.int .i64 a2_0, .int .i64 a2_1] 23 (0, 0)) (by (with_reducible repeat (first | refine blk_drewN ?_ _ | refine blk_drew ?_ | refine blk_alloc ?_ _)); exact BK516.out)) : gb531 ≠ gb516)); have n14_ := Aside0.mk ((by rw [hg]; exact Nat.ne_of_lt (blk_lt (g := gb527) (o := .cells #[.int .i64 t524, .int .i64 t525] 23 (0, 0)) (by (with_reducible repeat (first | refine blk_drewN ?_ _ | refine blk_drew ?_ | refine blk_alloc ?_ _)); exact BK527.out)) : gb527 ≠ gb531)); have n15_ := Aside0.mk ((by rw [hg]; exact Nat.ne_of_gt (blk_lt (g := gb527) (o := .cells #[.int .i64 t524, .int .i64 t525] 23 (0, 0)) (by (with_reducible repeat (first | refine blk_drewN ?_ _ | refine blk_drew ?_ | refine blk_alloc ?_ _)); exact BK527.out)) : gb531 ≠ gb527)); clear BK514; clear BK515; clear BK516; clear BK527; clear HB; have BK514 := n0_; have BK515 := n1_; have BK516 := n2_; have BK527 := n3_; have HB := n4_; have BK531 := n5_; have GW531 := n6_; have GE531 := n7_; have NB514_531 := n8_; have NB531_514 := n9_; have NB515_531 := n10_; have NB531_515 := n11_; have NB516_531 := n12_; have NB531_516 := n13_; have NB527_531 := n14_; have NB531_527 := n15_; clear n0_ n1_ n2_ n3_ n4_ n5_ n6_ n7_ n8_ n9_ n10_ n11_ n12_ n13_ n14_ n15_; clear hb hbox hg; have hnb100 := NB531_514.out; have hnc100 := NB514_531.out; have hnb101 := NB531_515.out; have hnc101 := NB515_531.out; have hnb102 := NB531_516.out; have hnc102 := NB516_531.out; have hnb103 := NB531_527.out; have hnc103 := NB527_531.out; have hcz104_0 : w99.cell? ⟨gb531, 0, none⟩ = some (.int .i64 0) := (blk_cell BK531.out 0).trans rfl; have hcz104_1 : w99.cell? ⟨gb531, 1, none⟩ = some (.int .i64 0) := (blk_cell BK531.out 1).trans rfl; have hfz104_0 := blk_frozen BK531.out 0; have hfz104_1 := blk_frozen BK531.out 1; have hnb105 := NB515_527.out; have hnc105 := NB527_515.out; have hcz106_0 : w99.cell? ⟨gb515, 0, none⟩ = some (.int .i64 a1_0) := (blk_cell BK515.out 0).trans rfl; have hcz106_1 : w99.cell? ⟨gb515, 1, none⟩ = some (.int .i64 a1_1) := (blk_cell BK515.out 1).trans rfl; have hfz106_0 := blk_frozen BK515.out 0; have hfz106_1 := blk_frozen BK515.out 1; have hcz107_0 : w99.cell? ⟨gb516, 0, none⟩ = some (.int .i64 a2_0) := (blk_cell BK516.out 0).trans rfl; have hcz107_1 : w99.cell? ⟨gb516, 1, none⟩ = some (.int .i64 a2_1) := (blk_cell BK516.out 1).trans rfl; have hfz107_0 := blk_frozen BK516.out 0; have hfz107_1 := blk_frozen BK516.out 1) | ((with_reducible refine gate_callee (f := 13) rfl ?_); refine goesL_ (some 74) rfl rfl Try.func13 (by kernel_rfl) rfl #[.agg #[.int .i64 a1_0, .int .i64 a1_1], .agg #[.int .i64 a2_0, .int .i64 a2_1]] rfl (by (try simp only [List.map_toArray, List.map_cons, List.map_nil]); first | done | rfl | (simp only [List.length_drop, List.length_take]; rfl)) ?_; (with_reducible refine (rat_Add.calls kj67 a1_0 a1_1 a2_0 a2_1 t532 t533 t534 _ A87.out).mono ?_); rintro e w108 ⟨rfl, hb⟩; refine ⟨_, rfl, ?_⟩; have n0_ := Aside0.mk (blk_below (g := gb514) (o := .cells #[.int .i64 a0_0, .int .i64 a0_1] 23 (0, 0)) (by (with_reducible repeat (first | refine blk_drewN ?_ _ | refine blk_drew ?_ | refine blk_alloc ?_ _)); refine blk_far ?_ NB514_531.out _; (with_reducible repeat (first | refine blk_drewN ?_ _ | refine blk_drew ?_ | refine blk_alloc ?_ _)); refine blk_far ?_ NB514_531.out _; (with_reducible repeat (first | refine blk_drewN ?_ _ | refine blk_drew ?_ | refine blk_alloc ?_ _)); exact BK514.out) hb); have n1_ := Aside0.mk (blk_below (g := gb515) (o := .cells #[.int .i64 a1_0, .int .i64 a1_1] 23 (0, 0)) (by (with_reducible repeat (first | refine blk_drewN ?_ _ | refine blk_drew ?_ | refine blk_alloc ?_ _)); refine blk_far ?_ NB515_531.out _; (with_reducible repeat (first | refine blk_drewN ?_ _ | refine blk_drew ?_ | refine blk_alloc ?_ _)); refine blk_far ?_ NB515_531.out _; (with_reducible repeat (first | refine blk_drewN ?_ _ | refine blk_drew ?_ | refine blk_alloc ?_ _)); exact BK515.out) hb); have n2_ := Aside0.mk (blk_below (g := gb516) (o := .cells #[.int .i64 a2_0, .int .i64 a2_1] 23 (0, 0)) (by (with_reducible repeat (first | refine blk_drewN ?_ _ | refine blk_drew ?_ | refine blk_alloc ?_ _)); refine blk_far ?_ NB516_531.out _; (with_reducible repeat (first | refine blk_drewN ?_ _ | refine blk_drew ?_ | refine blk_alloc ?_ _)); refine blk_far ?_ NB516_531.out _; (with_reducible repeat (first | refine blk_drewN ?_ _ | refine blk_drew ?_ | refine blk_alloc ?_ _)); exact BK516.out) hb); have n3_ := Aside0.mk (blk_below (g := gb527) (o := .cells #[.int .i64 t524, .int .i64 t525] 23 (0, 0)) (by (with_reducible repeat (first | refine blk_drewN ?_ _ | refine blk_drew ?_ | refine blk_alloc ?_ _)); refine blk_far ?_ NB527_531.out _; (with_reducible repeat (first | refine blk_drewN ?_ _ | refine blk_drew ?_ | refine blk_alloc ?_ _)); refine blk_far ?_ NB527_531.out _; (with_reducible repeat (first | refine blk_drewN ?_ _ | refine blk_drew ?_ | refine blk_alloc ?_ _)); exact BK527.out) hb); have n4_ := Aside0.mk (blk_below (g := gb531) (o := .cells #[.int .i64 t528, .int .i64 t529] 23 (0, 0)) (by (with_reducible repeat (first | refine blk_drewN ?_ _ | refine blk_drew ?_ | refine blk_alloc ?_ _)); refine blk_put (cs := #[.int .i64 t528, .int .i64 0]) ?_ 1 _ rfl; (with_reducible repeat (first | refine blk_drewN ?_ _ | refine blk_drew ?_ | refine blk_alloc ?_ _)); refine blk_put (cs := #[.int .i64 0, .int .i64 0]) ?_ 0 _ rfl; (with_reducible repeat (first | refine blk_drewN ?_ _ | refine blk_drew ?_ | refine blk_alloc ?_ _)); exact BK531.out) hb); have n5_ := Aside0.mk (below_step (by repeat (first | (with_reducible first | exact HB.out | apply below_alloc | apply pw_below_drewN | apply below_drew1 | refine below_set ?_ GE514.out | refine below_set ?_ GE515.out | refine below_set ?_ GE516.out | refine below_set ?_ GE527.out | refine below_set ?_ GE531.out) | exact HB.out)) hb); clear BK514; clear BK515; clear BK516; clear BK527; clear BK531; clear HB; have BK514 := n0_; have BK515 := n1_; have BK516 := n2_; have BK527 := n3_; have BK531 := n4_; have HB := n5_; clear n0_ n1_ n2_ n3_ n4_ n5_; (try clear hb); (try clear hb2); (try clear hk); (try clear hi)) | ((with_reducible refine gate_dst (N := 12) rfl ?_); refine box_event ?hg (N := 12) ?hd (cs := #[.int .i64 0, .int .i64 0]) (t := 23) ?hr ?_; (case hd => rfl); (case hg => rfl); (case hr => first | (go_simp; done) | (go_simp; rfl)); intro gb535 hg w109 hbox hb; have n0_ := Aside0.mk (blk_below (g := gb514) (o := .cells #[.int .i64 a0_0, .int .i64 a0_1] 23 (0, 0)) (by (with_reducible repeat (first | refine blk_drewN ?_ _ | refine blk_drew ?_ | refine blk_alloc ?_ _)); exact BK514.out) hb); have n1_ := Aside0.mk (blk_below (g := gb515) (o := .cells #[.int .i64 a1_0, .int .i64 a1_1] 23 (0, 0)) (by (with_reducible repeat (first | refine blk_drewN ?_ _ | refine blk_drew ?_ | refine blk_alloc ?_ _)); exact BK515.out) hb); have n2_ := Aside0.mk (blk_below (g := gb516) (o := .cells #[.int .i64 a2_0, .int .i64 a2_1] 23 (0, 0)) (by (with_reducible repeat (first | refine blk_drewN ?_ _ | refine blk_drew ?_ | refine blk_alloc ?_ _)); exact BK516.out) hb); have n3_ := Aside0.mk (blk_below (g := gb527) (o := .cells #[.int .i64 t524, .int .i64 t525] 23 (0, 0)) (by (with_reducible repeat (first | refine blk_drewN ?_ _ | refine blk_drew ?_ | refine blk_alloc ?_ _)); exact BK527.out) hb); have n4_ := Aside0.mk (blk_below (g := gb531) (o := .cells #[.int .i64 t528, .int .i64 t529] 23 (0, 0)) (by (with_reducible repeat (first | refine blk_drewN ?_ _ | refine blk_drew ?_ | refine blk_alloc ?_ _)); exact BK531.out) hb); have n5_ := Aside0.mk (below_step (by repeat (first | (with_reducible first | exact HB.out | apply below_alloc | apply pw_below_drewN | apply below_drew1 | refine below_set ?_ GE514.out | refine below_set ?_ GE515.out | refine below_set ?_ GE516.out | refine below_set ?_ GE527.out | refine below_set ?_ GE531.out) | exact HB.out)) hb); have n6_ := Aside0.mk (hbox); have n7_ := Aside0.mk ((by rw [hg]; exact (below_size (by repeat (first | (with_reducible first | exact HB.out | apply below_alloc | apply pw_below_drewN | apply below_drew1 | refine below_set ?_ GE514.out | refine below_set ?_ GE515.out | refine below_set ?_ GE516.out | refine below_set ?_ GE527.out | refine below_set ?_ GE531.out) | exact HB.out))) : w.heap.size ≤ gb535)); have n8_ := Aside0.mk ((by rw [hg]; exact (below_size (by repeat (first | (with_reducible first | exact HB.out | apply below_alloc | apply pw_below_drewN | apply below_drew1 | refine below_set ?_ GE514.out | refine below_set ?_ GE515.out | refine below_set ?_ GE516.out | refine below_set ?_ GE527.out | refine below_set ?_ GE531.out) | exact HB.out))) : w.heap.size ≤ gb535)); have n9_ := Aside0.mk ((by rw [hg]; exact Nat.ne_of_lt (blk_lt (g := gb514) (o := .cells #[.int .i64 a0_0, .int .i64 a0_1] 23 (0, 0)) (by (with_reducible repeat (first | refine blk_drewN ?_ _ | refine blk_drew ?_ | refine blk_alloc ?_ _)); exact BK514.out)) : gb514 ≠ gb535)); have n10_ := Aside0.mk ((by rw [hg]; exact Nat.ne_of_gt (blk_lt (g := gb514) (o := .cells #[.int .i64 a0_0, .int .i64 a0_1] 23 (0, 0)) (by (with_reducible repeat (first | refine blk_drewN ?_ _ | refine blk_drew ?_ | refine blk_alloc ?_ _)); exact BK514.out)) : gb535 ≠ gb514)); have n11_ := Aside0.mk ((by rw [hg]; exact Nat.ne_of_lt (blk_lt (g := gb515) (o := .cells #[.int .i64 a1_0, .int .i64 a1_1] 23 (0, 0)) (by (with_reducible repeat (first | refine blk_drewN ?_ _ | refine blk_drew ?_ | refine blk_alloc ?_ _)); exact BK515.out)) : gb515 ≠ gb535)); have n12_ := Aside0.mk ((by rw [hg]; exact Nat.ne_of_gt (blk_lt (g := gb515) (o := .cells #[.int .i64 a1_0, .int .i64 a1_1] 23 (0, 0)) (by (with_reducible repeat (first | refine blk_drewN ?_ _ | refine blk_drew ?_ | refine blk_alloc ?_ _)); exact BK515.out)) : gb535 ≠ gb515)); have n13_ := Aside0.mk ((by rw [hg]; exact Nat.ne_of_lt (blk_lt (g := gb516) (o := .cells #[.int .i64 a2_0, .int .i64 a2_1] 23 (0, 0)) (by (with_reducible repeat (first | refine blk_drewN ?_ _ | refine blk_drew ?_ | refine blk_alloc ?_ _)); exact BK516.out)) : gb516 ≠ gb535)); have n14_ := Aside0.mk ((by rw [hg]; exact Nat.ne_of_gt (blk_lt (g := gb516) (o := .cells #[.int .i64 a2_0, .int .i64 a2_1] 23 (0, 0)) (by (with_reducible repeat (first | refine blk_drewN ?_ _ | refine blk_drew ?_ | refine blk_alloc ?_ _)); exact BK516.out)) : gb535 ≠ gb516)); have n15_ := Aside0.mk ((by rw [hg]; exact Nat.ne_of_lt (blk_lt (g := gb527) (o := .cells #[.int .i64 t524, .int .i64 t525] 23 (0, 0)) (by (with_reducible repeat (first | refine blk_drewN ?_ _ | refine blk_drew ?_ | refine blk_alloc ?_ _)); exact BK527.out)) : gb527 ≠ gb535)); have n16_ := Aside0.mk ((by rw [hg]; exact Nat.ne_of_gt (blk_lt (g := gb527) (o := .cells #[.int .i64 t524, .int .i64 t525] 23 (0, 0)) (by (with_reducible repeat (first | refine blk_drewN ?_ _ | refine blk_drew ?_ | refine blk_alloc ?_ _)); exact BK527.out)) : gb535 ≠ gb527)); have n17_ := Aside0.mk ((by rw [hg]; exact Nat.ne_of_lt (blk_lt (g := gb531) (o := .cells #[.int .i64 t528, .int .i64 t529] 23 (0, 0)) (by (with_reducible repeat (first | refine blk_drewN ?_ _ | refine blk_drew ?_ | refine blk_alloc ?_ _)); exact BK531.out)) : gb531 ≠ gb535)); have n18_ := Aside0.mk ((by rw [hg]; exact Nat.ne_of_gt (blk_lt (g := gb531) (o := .cells #[.int .i64 t528, .int .i64 t529] 23 (0, 0)) (by (with_reducible repeat (first | refine blk_drewN ?_ _ | refine blk_drew ?_ | refine blk_alloc ?_ _)); exact BK531.out)) : gb535 ≠ gb531)); clear BK514; clear BK515; clear BK516; clear BK527; clear BK531; clear HB; have BK514 := n0_; have BK515 := n1_; have BK516 := n2_; have BK527 := n3_; have BK531 := n4_; have HB := n5_; have BK535 := n6_; have GW535 := n7_; have GE535 := n8_; have NB514_535 := n9_; have NB535_514 := n10_; have NB515_535 := n11_; have NB535_515 := n12_; have NB516_535 := n13_; have NB535_516 := n14_; have NB527_535 := n15_; have NB535_527 := n16_; have NB531_535 := n17_; have NB535_531 := n18_; clear n0_ n1_ n2_ n3_ n4_ n5_ n6_ n7_ n8_ n9_ n10_ n11_ n12_ n13_ n14_ n15_ n16_ n17_ n18_; clear hb hbox hg; have hnb110 := NB535_514.out; have hnc110 := NB514_535.out; have hnb111 := NB535_515.out; have hnc111 := NB515_535.out; have hnb112 := NB535_516.out; have hnc112 := NB516_535.out; have hnb113 := NB535_527.out; have hnc113 := NB527_535.out; have hnb114 := NB535_531.out; have hnc114 := NB531_535.out; have hcz115_0 : w109.cell? ⟨gb535, 0, none⟩ = some (.int .i64 0) := (blk_cell BK535.out 0).trans rfl; have hcz115_1 : w109.cell? ⟨gb535, 1, none⟩ = some (.int .i64 0) := (blk_cell BK535.out 1).trans rfl; have hfz115_0 := blk_frozen BK535.out 0; have hfz115_1 := blk_frozen BK535.out 1; have hcz116_0 : w109.cell? ⟨gb531, 0, none⟩ = some (.int .i64 t528) := (blk_cell BK531.out 0).trans rfl; have hcz116_1 : w109.cell? ⟨gb531, 1, none⟩ = some (.int .i64 t529) := (blk_cell BK531.out 1).trans rfl; have hfz116_0 := blk_frozen BK531.out 0; have hfz116_1 := blk_frozen BK531.out 1) | (go_at_call 15; (with_reducible refine (rat_Compare.calls kj67 t528 t529 t532 t533 t536 _ A90.out).mono ?_); rintro e w117 ⟨rfl, hb⟩; have n0_ := Aside0.mk (blk_below (g := gb514) (o := .cells #[.int .i64 a0_0, .int .i64 a0_1] 23 (0, 0)) (by (with_reducible repeat (first | refine blk_drewN ?_ _ | refine blk_drew ?_ | refine blk_alloc ?_ _)); refine blk_far ?_ NB514_535.out _; (with_reducible repeat (first | refine blk_drewN ?_ _ | refine blk_drew ?_ | refine blk_alloc ?_ _)); refine blk_far ?_ NB514_535.out _; (with_reducible repeat (first | refine blk_drewN ?_ _ | refine blk_drew ?_ | refine blk_alloc ?_ _)); exact BK514.out) hb); have n1_ := Aside0.mk (blk_below (g := gb515) (o := .cells #[.int .i64 a1_0, .int .i64 a1_1] 23 (0, 0)) (by (with_reducible repeat (first | refine blk_drewN ?_ _ | refine blk_drew ?_ | refine blk_alloc ?_ _)); refine blk_far ?_ NB515_535.out _; (with_reducible repeat (first | refine blk_drewN ?_ _ | refine blk_drew ?_ | refine blk_alloc ?_ _)); refine blk_far ?_ NB515_535.out _; (with_reducible repeat (first | refine blk_drewN ?_ _ | refine blk_drew ?_ | refine blk_alloc ?_ _)); exact BK515.out) hb); have n2_ := Aside0.mk (blk_below (g := gb516) (o := .cells #[.int .i64 a2_0, .int .i64 a2_1] 23 (0, 0)) (by (with_reducible repeat (first | refine blk_drewN ?_ _ | refine blk_drew ?_ | refine blk_alloc ?_ _)); refine blk_far ?_ NB516_535.out _; (with_reducible repeat (first | refine blk_drewN ?_ _ | refine blk_drew ?_ | refine blk_alloc ?_ _)); refine blk_far ?_ NB516_535.out _; (with_reducible repeat (first | refine blk_drewN ?_ _ | refine blk_drew ?_ | refine blk_alloc ?_ _)); exact BK516.out) hb); have n3_ := Aside0.mk (blk_below (g := gb527) (o := .cells #[.int .i64 t524, .int .i64 t525] 23 (0, 0)) (by (with_reducible repeat (first | refine blk_drewN ?_ _ | refine blk_drew ?_ | refine blk_alloc ?_ _)); refine blk_far ?_ NB527_535.out _; (with_reducible repeat (first | refine blk_drewN ?_ _ | refine blk_drew ?_ | refine blk_alloc ?_ _)); refine blk_far ?_ NB527_535.out _; (with_reducible repeat (first | refine blk_drewN ?_ _ | refine blk_drew ?_ | refine blk_alloc ?_ _)); exact BK527.out) hb); have n4_ := Aside0.mk (blk_below (g := gb531) (o := .cells #[.int .i64 t528, .int .i64 t529] 23 (0, 0)) (by (with_reducible repeat (first | refine blk_drewN ?_ _ | refine blk_drew ?_ | refine blk_alloc ?_ _)); refine blk_far ?_ NB531_535.out _; (with_reducible repeat (first | refine blk_drewN ?_ _ | refine blk_drew ?_ | refine blk_alloc ?_ _)); refine blk_far ?_ NB531_535.out _; (with_reducible repeat (first | refine blk_drewN ?_ _ | refine blk_drew ?_ | refine blk_alloc ?_ _)); exact BK531.out) hb); have n5_ := Aside0.mk (blk_below (g := gb535) (o := .cells #[.int .i64 t532, .int .i64 t533] 23 (0, 0)) (by (with_reducible repeat (first | refine blk_drewN ?_ _ | refine blk_drew ?_ | refine blk_alloc ?_ _)); refine blk_put (cs := #[.int .i64 t532, .int .i64 0]) ?_ 1 _ rfl; (with_reducible repeat (first | refine blk_drewN ?_ _ | refine blk_drew ?_ | refine blk_alloc ?_ _)); refine blk_put (cs := #[.int .i64 0, .int .i64 0]) ?_ 0 _ rfl; (with_reducible repeat (first | refine blk_drewN ?_ _ | refine blk_drew ?_ | refine blk_alloc ?_ _)); exact BK535.out) hb); have n6_ := Aside0.mk (below_step (by repeat (first | (with_reducible first | exact HB.out | apply below_alloc | apply pw_below_drewN | apply below_drew1 | refine below_set ?_ GE514.out | refine below_set ?_ GE515.out | refine below_set ?_ GE516.out | refine below_set ?_ GE527.out | refine below_set ?_ GE531.out | refine below_set ?_ GE535.out) | exact HB.out)) hb); clear BK514; clear BK515; clear BK516; clear BK527; clear BK531; clear BK535; clear HB; have BK514 := n0_; have BK515 := n1_; have BK516 := n2_; have BK527 := n3_; have BK531 := n4_; have BK535 := n5_; have HB := n6_; clear n0_ n1_ n2_ n3_ n4_ n5_ n6_; (try clear hb); (try clear hb2); (try clear hk); (try clear hi)))
                        go_ret
                        exact ⟨by first | rfl | (simp [errW_none, errW_some] <;> rfl) | (simp [*, errW_none, errW_some] <;> rfl), by repeat (first | (with_reducible first | exact HB.out | apply below_alloc | apply pw_below_drewN | apply below_drew1 | refine below_set ?_ GE514.out | refine below_set ?_ GE515.out | refine below_set ?_ GE516.out | refine below_set ?_ GE527.out | refine below_set ?_ GE531.out | refine below_set ?_ GE535.out) | exact HB.out)⟩
                      · rw [if_neg c89] at H
                        have c89b0 : (t534 == 0) = false := beq_eq_false_iff_ne.mpr c89
                        have c89b1 : (t534 != 0) = true := bne_iff_ne.mpr c89
                        obtain rfl := Option.some.inj H
                        have hnb118 := NB514_515.out
                        have hnc118 := NB515_514.out
                        have hnb119 := NB514_516.out
                        have hnc119 := NB516_514.out
                        have hnb120 := NB514_527.out
                        have hnc120 := NB527_514.out
                        have hcz121_0 : wc.cell? ⟨gb514, 0, none⟩ = some (.int .i64 a0_0) := (blk_cell BK514.out 0).trans rfl
                        have hcz121_1 : wc.cell? ⟨gb514, 1, none⟩ = some (.int .i64 a0_1) := (blk_cell BK514.out 1).trans rfl
                        have hfz121_0 := blk_frozen BK514.out 0
                        have hfz121_1 := blk_frozen BK514.out 1
                        have hnb122 := NB516_515.out
                        have hnc122 := NB515_516.out
                        have hnb123 := NB516_527.out
                        have hnc123 := NB527_516.out
                        have hcz124_0 : wc.cell? ⟨gb516, 0, none⟩ = some (.int .i64 a2_0) := (blk_cell BK516.out 0).trans rfl
                        have hcz124_1 : wc.cell? ⟨gb516, 1, none⟩ = some (.int .i64 a2_1) := (blk_cell BK516.out 1).trans rfl
                        have hfz124_0 := blk_frozen BK516.out 0
                        have hfz124_1 := blk_frozen BK516.out 1
                        go_wp2_with (first | ((with_reducible refine gate_callee (f := 13) rfl ?_); refine goesL_ (some 68) rfl rfl Try.func13 (by kernel_rfl) rfl #[.agg #[.int .i64 a0_0, .int .i64 a0_1], .agg #[.int .i64 a2_0, .int .i64 a2_1]] rfl (by (try simp only [List.map_toArray, List.map_cons, List.map_nil]); first | done | rfl | (simp only [List.length_drop, List.length_take]; rfl)) ?_; (with_reducible refine (rat_Add.calls kj67 a0_0 a0_1 a2_0 a2_1 t528 t529 t530 _ A86.out).mono ?_); rintro e w125 ⟨rfl, hb⟩; refine ⟨_, rfl, ?_⟩; have n0_ := Aside0.mk (blk_below (g := gb514) (o := .cells #[.int .i64 a0_0, .int .i64 a0_1] 23 (0, 0)) (by (with_reducible repeat (first | refine blk_drewN ?_ _ | refine blk_drew ?_ | refine blk_alloc ?_ _)); exact BK514.out) hb); have n1_ := Aside0.mk (blk_below (g := gb515) (o := .cells #[.int .i64 a1_0, .int .i64 a1_1] 23 (0, 0)) (by (with_reducible repeat (first | refine blk_drewN ?_ _ | refine blk_drew ?_ | refine blk_alloc ?_ _)); exact BK515.out) hb); have n2_ := Aside0.mk (blk_below (g := gb516) (o := .cells #[.int .i64 a2_0, .int .i64 a2_1] 23 (0, 0)) (by (with_reducible repeat (first | refine blk_drewN ?_ _ | refine blk_drew ?_ | refine blk_alloc ?_ _)); exact BK516.out) hb); have n3_ := Aside0.mk (blk_below (g := gb527) (o := .cells #[.int .i64 t524, .int .i64 t525] 23 (0, 0)) (by (with_reducible repeat (first | refine blk_drewN ?_ _ | refine blk_drew ?_ | refine blk_alloc ?_ _)); exact BK527.out) hb); have n4_ := Aside0.mk (below_step (by repeat (first | (with_reducible first | exact HB.out | apply below_alloc | apply pw_below_drewN | apply below_drew1 | refine below_set ?_ GE514.out | refine below_set ?_ GE515.out | refine below_set ?_ GE516.out | refine below_set ?_ GE527.out) | exact HB.out)) hb); clear BK514; clear BK515; clear BK516; clear BK527; clear HB; have BK514 := n0_; have BK515 := n1_; have BK516 := n2_; have BK527 := n3_; have HB := n4_; clear n0_ n1_ n2_ n3_ n4_; (try clear hb); (try clear hb2); (try clear hk); (try clear hi)) | ((with_reducible refine gate_dst (N := 10) rfl ?_); refine box_event ?hg (N := 10) ?hd (cs := #[.int .i64 0, .int .i64 0]) (t := 23) ?hr ?_; (case hd => rfl); (case hg => rfl); (case hr => first | (go_simp; done) | (go_simp; rfl)); intro gb531 hg w126 hbox hb; have n0_ := Aside0.mk (blk_below (g := gb514) (o := .cells #[.int .i64 a0_0, .int .i64 a0_1] 23 (0, 0)) (by (with_reducible repeat (first | refine blk_drewN ?_ _ | refine blk_drew ?_ | refine blk_alloc ?_ _)); exact BK514.out) hb); have n1_ := Aside0.mk (blk_below (g := gb515) (o := .cells #[.int .i64 a1_0, .int .i64 a1_1] 23 (0, 0)) (by (with_reducible repeat (first | refine blk_drewN ?_ _ | refine blk_drew ?_ | refine blk_alloc ?_ _)); exact BK515.out) hb); have n2_ := Aside0.mk (blk_below (g := gb516) (o := .cells #[.int .i64 a2_0, .int .i64 a2_1] 23 (0, 0)) (by (with_reducible repeat (first | refine blk_drewN ?_ _ | refine blk_drew ?_ | refine blk_alloc ?_ _)); exact BK516.out) hb); have n3_ := Aside0.mk (blk_below (g := gb527) (o := .cells #[.int .i64 t524, .int .i64 t525] 23 (0, 0)) (by (with_reducible repeat (first | refine blk_drewN ?_ _ | refine blk_drew ?_ | refine blk_alloc ?_ _)); exact BK527.out) hb); have n4_ := Aside0.mk (below_step (by repeat (first | (with_reducible first | exact HB.out | apply below_alloc | apply pw_below_drewN | apply below_drew1 | refine below_set ?_ GE514.out | refine below_set ?_ GE515.out | refine below_set ?_ GE516.out | refine below_set ?_ GE527.out) | exact HB.out)) hb); have n5_ := Aside0.mk (hbox); have n6_ := Aside0.mk ((by rw [hg]; exact (below_size (by repeat (first | (with_reducible first | exact HB.out | apply below_alloc | apply pw_below_drewN | apply below_drew1 | refine below_set ?_ GE514.out | refine below_set ?_ GE515.out | refine below_set ?_ GE516.out | refine below_set ?_ GE527.out) | exact HB.out))) : w.heap.size ≤ gb531)); have n7_ := Aside0.mk ((by rw [hg]; exact (below_size (by repeat (first | (with_reducible first | exact HB.out | apply below_alloc | apply pw_below_drewN | apply below_drew1 | refine below_set ?_ GE514.out | refine below_set ?_ GE515.out | refine below_set ?_ GE516.out | refine below_set ?_ GE527.out) | exact HB.out))) : w.heap.size ≤ gb531)); have n8_ := Aside0.mk ((by rw [hg]; exact Nat.ne_of_lt (blk_lt (g := gb514) (o := .cells #[.int .i64 a0_0, .int .i64 a0_1] 23 (0, 0)) (by (with_reducible repeat (first | refine blk_drewN ?_ _ | refine blk_drew ?_ | refine blk_alloc ?_ _)); exact BK514.out)) : gb514 ≠ gb531)); have n9_ := Aside0.mk ((by rw [hg]; exact Nat.ne_of_gt (blk_lt (g := gb514) (o := .cells #[.int .i64 a0_0, .int .i64 a0_1] 23 (0, 0)) (by (with_reducible repeat (first | refine blk_drewN ?_ _ | refine blk_drew ?_ | refine blk_alloc ?_ _)); exact BK514.out)) : gb531 ≠ gb514)); have n10_ := Aside0.mk ((by rw [hg]; exact Nat.ne_of_lt (blk_lt (g := gb515) (o := .cells #[.int .i64 a1_0, .int .i64 a1_1] 23 (0, 0)) (by (with_reducible repeat (first | refine blk_drewN ?_ _ | refine blk_drew ?_ | refine blk_alloc ?_ _)); exact BK515.out)) : gb515 ≠ gb531)); have n11_ := Aside0.mk ((by rw [hg]; exact Nat.ne_of_gt (blk_lt (g := gb515) (o := .cells #[.int .i64 a1_0, .int .i64 a1_1] 23 (0, 0)) (by (with_reducible repeat (first | refine blk_drewN ?_ _ | refine blk_drew ?_ | refine blk_alloc ?_ _)); exact BK515.out)) : gb531 ≠ gb515)); have n12_ := Aside0.mk ((by rw [hg]; exact Nat.ne_of_lt (blk_lt (g := gb516) (o := .cells #[.int .i64 a2_0, .int .i64 a2_1] 23 (0, 0)) (by (with_reducible repeat (first | refine blk_drewN ?_ _ | refine blk_drew ?_ | refine blk_alloc ?_ _)); exact BK516.out)) : gb516 ≠ gb531)); have n13_ := Aside0.mk ((by rw [hg]; exact Nat.ne_of_gt (blk_lt (g := gb516) (o := .cells #[.int .i64 a2_0, .int .i64 a2_1] 23 (0, 0)) (by (with_reducible repeat (first | refine blk_drewN ?_ _ | refine blk_drew ?_ | refine blk_alloc ?_ _)); exact BK516.out)) : gb531 ≠ gb516)); have n14_ := Aside0.mk ((by rw [hg]; exact Nat.ne_of_lt (blk_lt (g := gb527) (o := .cells #[.int .i64 t524, .int .i64 t525] 23 (0, 0)) (by (with_reducible repeat (first | refine blk_drewN ?_ _ | refine blk_drew ?_ | refine blk_alloc ?_ _)); exact BK527.out)) : gb527 ≠ gb531)); have n15_ := Aside0.mk ((by rw [hg]; exact Nat.ne_of_gt (blk_lt (g := gb527) (o := .cells #[.int .i64 t524, .int .i64 t525] 23 (0, 0)) (by (with_reducible repeat (first | refine blk_drewN ?_ _ | refine blk_drew ?_ | refine blk_alloc ?_ _)); exact BK527.out)) : gb531 ≠ gb527)); clear BK514; clear BK515; clear BK516; clear BK527; clear HB; have BK514 := n0_; have BK515 := n1_; have BK516 := n2_; have BK527 := n3_; have HB := n4_; have BK531 := n5_; have GW531 := n6_; have GE531 := n7_; have NB514_531 := n8_; have NB531_514 := n9_; have NB515_531 := n10_; have NB531_515 := n11_; have NB516_531 := n12_; have NB531_516 := n13_; have NB527_531 := n14_; have NB531_527 := n15_; clear n0_ n1_ n2_ n3_ n4_ n5_ n6_ n7_ n8_ n9_ n10_ n11_ n12_ n13_ n14_ n15_; clear hb hbox hg; have hnb127 := NB531_514.out; have hnc127 := NB514_531.out; have hnb128 := NB531_515.out; have hnc128 := NB515_531.out; have hnb129 := NB531_516.out; have hnc129 := NB516_531.out; have hnb130 := NB531_527.out; have hnc130 := NB527_531.out; have hcz131_0 : w126.cell? ⟨gb531, 0, none⟩ = some (.int .i64 0) := (blk_cell BK531.out 0).trans rfl; have hcz131_1 : w126.cell? ⟨gb531, 1, none⟩ = some (.int .i64 0) := (blk_cell BK531.out 1).trans rfl; have hfz131_0 := blk_frozen BK531.out 0; have hfz131_1 := blk_frozen BK531.out 1; have hnb132 := NB515_527.out; have hnc132 := NB527_515.out; have hcz133_0 : w126.cell? ⟨gb515, 0, none⟩ = some (.int .i64 a1_0) := (blk_cell BK515.out 0).trans rfl; have hcz133_1 : w126.cell? ⟨gb515, 1, none⟩ = some (.int .i64 a1_1) := (blk_cell BK515.out 1).trans rfl; have hfz133_0 := blk_frozen BK515.out 0; have hfz133_1 := blk_frozen BK515.out 1; have hcz134_0 : w126.cell? ⟨gb516, 0, none⟩ = some (.int .i64 a2_0) := (blk_cell BK516.out 0).trans rfl; have hcz134_1 : w126.cell? ⟨gb516, 1, none⟩ = some (.int .i64 a2_1) := (blk_cell BK516.out 1).trans rfl; have hfz134_0 := blk_frozen BK516.out 0; have hfz134_1 := blk_frozen BK516.out 1) | ((with_reducible refine gate_callee (f := 13) rfl ?_); refine goesL_ (some 74) rfl rfl Try.func13 (by kernel_rfl) rfl #[.agg #[.int .i64 a1_0, .int .i64 a1_1], .agg #[.int .i64 a2_0, .int .i64 a2_1]] rfl (by (try simp only [List.map_toArray, List.map_cons, List.map_nil]); first | done | rfl | (simp only [List.length_drop, List.length_take]; rfl)) ?_; (with_reducible refine (rat_Add.calls kj67 a1_0 a1_1 a2_0 a2_1 t532 t533 t534 _ A87.out).mono ?_); rintro e w135 ⟨rfl, hb⟩; refine ⟨_, rfl, ?_⟩; have n0_ := Aside0.mk (blk_below (g := gb514) (o := .cells #[.int .i64 a0_0, .int .i64 a0_1] 23 (0, 0)) (by (with_reducible repeat (first | refine blk_drewN ?_ _ | refine blk_drew ?_ | refine blk_alloc ?_ _)); refine blk_far ?_ NB514_531.out _; (with_reducible repeat (first | refine blk_drewN ?_ _ | refine blk_drew ?_ | refine blk_alloc ?_ _)); refine blk_far ?_ NB514_531.out _; (with_reducible repeat (first | refine blk_drewN ?_ _ | refine blk_drew ?_ | refine blk_alloc ?_ _)); exact BK514.out) hb); have n1_ := Aside0.mk (blk_below (g := gb515) (o := .cells #[.int .i64 a1_0, .int .i64 a1_1] 23 (0, 0)) (by (with_reducible repeat (first | refine blk_drewN ?_ _ | refine blk_drew ?_ | refine blk_alloc ?_ _)); refine blk_far ?_ NB515_531.out _; (with_reducible repeat (first | refine blk_drewN ?_ _ | refine blk_drew ?_ | refine blk_alloc ?_ _)); refine blk_far ?_ NB515_531.out _; (with_reducible repeat (first | refine blk_drewN ?_ _ | refine blk_drew ?_ | refine blk_alloc ?_ _)); exact BK515.out) hb); have n2_ := Aside0.mk (blk_below (g := gb516) (o := .cells #[.int .i64 a2_0, .int .i64 a2_1] 23 (0, 0)) (by (with_reducible repeat (first | refine blk_drewN ?_ _ | refine blk_drew ?_ | refine blk_alloc ?_ _)); refine blk_far ?_ NB516_531.out _; (with_reducible repeat (first | refine blk_drewN ?_ _ | refine blk_drew ?_ | refine blk_alloc ?_ _)); refine blk_far ?_ NB516_531.out _; (with_reducible repeat (first | refine blk_drewN ?_ _ | refine blk_drew ?_ | refine blk_alloc ?_ _)); exact BK516.out) hb); have n3_ := Aside0.mk (blk_below (g := gb527) (o := .cells #[.int .i64 t524, .int .i64 t525] 23 (0, 0)) (by (with_reducible repeat (first | refine blk_drewN ?_ _ | refine blk_drew ?_ | refine blk_alloc ?_ _)); refine blk_far ?_ NB527_531.out _; (with_reducible repeat (first | refine blk_drewN ?_ _ | refine blk_drew ?_ | refine blk_alloc ?_ _)); refine blk_far ?_ NB527_531.out _; (with_reducible repeat (first | refine blk_drewN ?_ _ | refine blk_drew ?_ | refine blk_alloc ?_ _)); exact BK527.out) hb); have n4_ := Aside0.mk (blk_below (g := gb531) (o := .cells #[.int .i64 t528, .int .i64 t529] 23 (0, 0)) (by (with_reducible repeat (first | refine blk_drewN ?_ _ | refine blk_drew ?_ | refine blk_alloc ?_ _)); refine blk_put (cs := #[.int .i64 t528, .int .i64 0]) ?_ 1 _ rfl; (with_reducible repeat (first | refine blk_drewN ?_ _ | refine blk_drew ?_ | refine blk_alloc ?_ _)); refine blk_put (cs := #[.int .i64 0, .int .i64 0]) ?_ 0 _ rfl; (with_reducible repeat (first | refine blk_drewN ?_ _ | refine blk_drew ?_ | refine blk_alloc ?_ _)); exact BK531.out) hb); have n5_ := Aside0.mk (below_step (by repeat (first | (with_reducible first | exact HB.out | apply below_alloc | apply pw_below_drewN | apply below_drew1 | refine below_set ?_ GE514.out | refine below_set ?_ GE515.out | refine below_set ?_ GE516.out | refine below_set ?_ GE527.out | refine below_set ?_ GE531.out) | exact HB.out)) hb); clear BK514; clear BK515; clear BK516; clear BK527; clear BK531; clear HB; have BK514 := n0_; have BK515 := n1_; have BK516 := n2_; have BK527 := n3_; have BK531 := n4_; have HB := n5_; clear n0_ n1_ n2_ n3_ n4_ n5_; (try clear hb); (try clear hb2); (try clear hk); (try clear hi)) | ((with_reducible refine gate_dst (N := 12) rfl ?_); refine box_event ?hg (N := 12) ?hd (cs := #[.int .i64 0, .int .i64 0]) (t := 23) ?hr ?_; (case hd => rfl); (case hg => rfl); (case hr => first | (go_simp; done) | (go_simp; rfl)); intro gb535 hg w136 hbox hb; have n0_ := Aside0.mk (blk_below (g := gb514) (o := .cells #[.int .i64 a0_0, .int .i64 a0_1] 23 (0, 0)) (by (with_reducible repeat (first | refine blk_drewN ?_ _ | refine blk_drew ?_ | refine blk_alloc ?_ _)); exact BK514.out) hb); have n1_ := Aside0.mk (blk_below (g := gb515) (o := .cells #[.int .i64 a1_0, .int .i64 a1_1] 23 (0, 0)) (by (with_reducible repeat (first | refine blk_drewN ?_ _ | refine blk_drew ?_ | refine blk_alloc ?_ _)); exact BK515.out) hb); have n2_ := Aside0.mk (blk_below (g := gb516) (o := .cells #[.int .i64 a2_0, .int .i64 a2_1] 23 (0, 0)) (by (with_reducible repeat (first | refine blk_drewN ?_ _ | refine blk_drew ?_ | refine blk_alloc ?_ _)); exact BK516.out) hb); have n3_ := Aside0.mk (blk_below (g := gb527) (o := .cells #[.int .i64 t524, .int .i64 t525] 23 (0, 0)) (by (with_reducible repeat (first | refine blk_drewN ?_ _ | refine blk_drew ?_ | refine blk_alloc ?_ _)); exact BK527.out) hb); have n4_ := Aside0.mk (blk_below (g := gb531) (o := .cells #[.int .i64 t528, .int .i64 t529] 23 (0, 0)) (by (with_reducible repeat (first | refine blk_drewN ?_ _ | refine blk_drew ?_ | refine blk_alloc ?_ _)); exact BK531.out) hb); have n5_ := Aside0.mk (below_step (by repeat (first | (with_reducible first | exact HB.out | apply below_alloc | apply pw_below_drewN | apply below_drew1 | refine below_set ?_ GE514.out | refine below_set ?_ GE515.out | refine below_set ?_ GE516.out | refine below_set ?_ GE527.out | refine below_set ?_ GE531.out) | exact HB.out)) hb); have n6_ := Aside0.mk (hbox); have n7_ := Aside0.mk ((by rw [hg]; exact (below_size (by repeat (first | (with_reducible first | exact HB.out | apply below_alloc | apply pw_below_drewN | apply below_drew1 | refine below_set ?_ GE514.out | refine below_set ?_ GE515.out | refine below_set ?_ GE516.out | refine below_set ?_ GE527.out | refine below_set ?_ GE531.out) | exact HB.out))) : w.heap.size ≤ gb535)); have n8_ := Aside0.mk ((by rw [hg]; exact (below_size (by repeat (first | (with_reducible first | exact HB.out | apply below_alloc | apply pw_below_drewN | apply below_drew1 | refine below_set ?_ GE514.out | refine below_set ?_ GE515.out | refine below_set ?_ GE516.out | refine below_set ?_ GE527.out | refine below_set ?_ GE531.out) | exact HB.out))) : w.heap.size ≤ gb535)); have n9_ := Aside0.mk ((by rw [hg]; exact Nat.ne_of_lt (blk_lt (g := gb514) (o := .cells #[.int .i64 a0_0, .int .i64 a0_1] 23 (0, 0)) (by (with_reducible repeat (first | refine blk_drewN ?_ _ | refine blk_drew ?_ | refine blk_alloc ?_ _)); exact BK514.out)) : gb514 ≠ gb535)); have n10_ := Aside0.mk ((by rw [hg]; exact Nat.ne_of_gt (blk_lt (g := gb514) (o := .cells #[.int .i64 a0_0, .int .i64 a0_1] 23 (0, 0)) (by (with_reducible repeat (first | refine blk_drewN ?_ _ | refine blk_drew ?_ | refine blk_alloc ?_ _)); exact BK514.out)) : gb535 ≠ gb514)); have n11_ := Aside0.mk ((by rw [hg]; exact Nat.ne_of_lt (blk_lt (g := gb515) (o := .cells #[.int .i64 a1_0, .int .i64 a1_1] 23 (0, 0)) (by (with_reducible repeat (first | refine blk_drewN ?_ _ | refine blk_drew ?_ | refine blk_alloc ?_ _)); exact BK515.out)) : gb515 ≠ gb535)); have n12_ := Aside0.mk ((by rw [hg]; exact Nat.ne_of_gt (blk_lt (g := gb515) (o := .cells #[.int .i64 a1_0, .int .i64 a1_1] 23 (0, 0)) (by (with_reducible repeat (first | refine blk_drewN ?_ _ | refine blk_drew ?_ | refine blk_alloc ?_ _)); exact BK515.out)) : gb535 ≠ gb515)); have n13_ := Aside0.mk ((by rw [hg]; exact Nat.ne_of_lt (blk_lt (g := gb516) (o := .cells #[.int .i64 a2_0, .int .i64 a2_1] 23 (0, 0)) (by (with_reducible repeat (first | refine blk_drewN ?_ _ | refine blk_drew ?_ | refine blk_alloc ?_ _)); exact BK516.out)) : gb516 ≠ gb535)); have n14_ := Aside0.mk ((by rw [hg]; exact Nat.ne_of_gt (blk_lt (g := gb516) (o := .cells #[.int .i64 a2_0, .int .i64 a2_1] 23 (0, 0)) (by (with_reducible repeat (first | refine blk_drewN ?_ _ | refine blk_drew ?_ | refine blk_alloc ?_ _)); exact BK516.out)) : gb535 ≠ gb516)); have n15_ := Aside0.mk ((by rw [hg]; exact Nat.ne_of_lt (blk_lt (g := gb527) (o := .cells #[.int .i64 t524, .int .i64 t525] 23 (0, 0)) (by (with_reducible repeat (first | refine blk_drewN ?_ _ | refine blk_drew ?_ | refine blk_alloc ?_ _)); exact BK527.out)) : gb527 ≠ gb535)); have n16_ := Aside0.mk ((by rw [hg]; exact Nat.ne_of_gt (blk_lt (g := gb527) (o := .cells #[.int .i64 t524, .int .i64 t525] 23 (0, 0)) (by (with_reducible repeat (first | refine blk_drewN ?_ _ | refine blk_drew ?_ | refine blk_alloc ?_ _)); exact BK527.out)) : gb535 ≠ gb527)); have n17_ := Aside0.mk ((by rw [hg]; exact Nat.ne_of_lt (blk_lt (g := gb531) (o := .cells #[.int .i64 t528, .int .i64 t529] 23 (0, 0)) (by (with_reducible repeat (first | refine blk_drewN ?_ _ | refine blk_drew ?_ | refine blk_alloc ?_ _)); exact BK531.out)) : gb531 ≠ gb535)); have n18_ := Aside0.mk ((by rw [hg]; exact Nat.ne_of_gt (blk_lt (g := gb531) (o := .cells #[.int .i64 t528, .int .i64 t529] 23 (0, 0)) (by (with_reducible repeat (first | refine blk_drewN ?_ _ | refine blk_drew ?_ | refine blk_alloc ?_ _)); exact BK531.out)) : gb535 ≠ gb531)); clear BK514; clear BK515; clear BK516; clear BK527; clear BK531; clear HB; have BK514 := n0_; have BK515 := n1_; have BK516 := n2_; have BK527 := n3_; have BK531 := n4_; have HB := n5_; have BK535 := n6_; have GW535 := n7_; have GE535 := n8_; have NB514_535 := n9_; have NB535_514 := n10_; have NB515_535 := n11_; have NB535_515 := n12_; have NB516_535 := n13_; have NB535_516 := n14_; have NB527_535 := n15_; have NB535_527 := n16_; have NB531_535 := n17_; have NB535_531 := n18_; clear n0_ n1_ n2_ n3_ n4_ n5_ n6_ n7_ n8_ n9_ n10_ n11_ n12_ n13_ n14_ n15_ n16_ n17_ n18_; clear hb hbox hg; have hnb137 := NB535_514.out; have hnc137 := NB514_535.out; have hnb138 := NB535_515.out; have hnc138 := NB515_535.out; have hnb139 := NB535_516.out; have hnc139 := NB516_535.out; have hnb140 := NB535_527.out; have hnc140 := NB527_535.out; have hnb141 := NB535_531.out; have hnc141 := NB531_535.out; have hcz142_0 : w136.cell? ⟨gb535, 0, none⟩ = some (.int .i64 0) := (blk_cell BK535.out 0).trans rfl; have hcz142_1 : w136.cell? ⟨gb535, 1, none⟩ = some (.int .i64 0) := (blk_cell BK535.out 1).trans rfl; have hfz142_0 := blk_frozen BK535.out 0; have hfz142_1 := blk_frozen BK535.out 1))
                        go_ret
                        exact ⟨by first | rfl | (simp [errW_none, errW_some] <;> rfl) | (simp [*, errW_none, errW_some] <;> rfl), by repeat (first | (with_reducible first | exact HB.out | apply below_alloc | apply pw_below_drewN | apply below_drew1 | refine below_set ?_ GE514.out | refine below_set ?_ GE515.out | refine below_set ?_ GE516.out | refine below_set ?_ GE527.out | refine below_set ?_ GE531.out | refine below_set ?_ GE535.out) | exact HB.out)⟩
                    · rw [if_neg c88] at H
                      have c88b0 : (t530 == 0) = false := beq_eq_false_iff_ne.mpr c88
                      have c88b1 : (t530 != 0) = true := bne_iff_ne.mpr c88
                      obtain rfl := Option.some.inj H
                      have hnb143 := NB514_515.out
                      have hnc143 := NB515_514.out
                      have hnb144 := NB514_516.out
                      have hnc144 := NB516_514.out
                      have hnb145 := NB514_527.out
                      have hnc145 := NB527_514.out
                      have hcz146_0 : wc.cell? ⟨gb514, 0, none⟩ = some (.int .i64 a0_0) := (blk_cell BK514.out 0).trans rfl
                      have hcz146_1 : wc.cell? ⟨gb514, 1, none⟩ = some (.int .i64 a0_1) := (blk_cell BK514.out 1).trans rfl
                      have hfz146_0 := blk_frozen BK514.out 0
                      have hfz146_1 := blk_frozen BK514.out 1
                      have hnb147 := NB516_515.out
                      have hnc147 := NB515_516.out
                      have hnb148 := NB516_527.out
                      have hnc148 := NB527_516.out
                      have hcz149_0 : wc.cell? ⟨gb516, 0, none⟩ = some (.int .i64 a2_0) := (blk_cell BK516.out 0).trans rfl
                      have hcz149_1 : wc.cell? ⟨gb516, 1, none⟩ = some (.int .i64 a2_1) := (blk_cell BK516.out 1).trans rfl
                      have hfz149_0 := blk_frozen BK516.out 0
                      have hfz149_1 := blk_frozen BK516.out 1
                      go_wp2_with (first | ((with_reducible refine gate_callee (f := 13) rfl ?_); refine goesL_ (some 68) rfl rfl Try.func13 (by kernel_rfl) rfl #[.agg #[.int .i64 a0_0, .int .i64 a0_1], .agg #[.int .i64 a2_0, .int .i64 a2_1]] rfl (by (try simp only [List.map_toArray, List.map_cons, List.map_nil]); first | done | rfl | (simp only [List.length_drop, List.length_take]; rfl)) ?_; (with_reducible refine (rat_Add.calls kj67 a0_0 a0_1 a2_0 a2_1 t528 t529 t530 _ A86.out).mono ?_); rintro e w150 ⟨rfl, hb⟩; refine ⟨_, rfl, ?_⟩; have n0_ := Aside0.mk (blk_below (g := gb514) (o := .cells #[.int .i64 a0_0, .int .i64 a0_1] 23 (0, 0)) (by (with_reducible repeat (first | refine blk_drewN ?_ _ | refine blk_drew ?_ | refine blk_alloc ?_ _)); exact BK514.out) hb); have n1_ := Aside0.mk (blk_below (g := gb515) (o := .cells #[.int .i64 a1_0, .int .i64 a1_1] 23 (0, 0)) (by (with_reducible repeat (first | refine blk_drewN ?_ _ | refine blk_drew ?_ | refine blk_alloc ?_ _)); exact BK515.out) hb); have n2_ := Aside0.mk (blk_below (g := gb516) (o := .cells #[.int .i64 a2_0, .int .i64 a2_1] 23 (0, 0)) (by (with_reducible repeat (first | refine blk_drewN ?_ _ | refine blk_drew ?_ | refine blk_alloc ?_ _)); exact BK516.out) hb); have n3_ := Aside0.mk (blk_below (g := gb527) (o := .cells #[.int .i64 t524, .int .i64 t525] 23 (0, 0)) (by (with_reducible repeat (first | refine blk_drewN ?_ _ | refine blk_drew ?_ | refine blk_alloc ?_ _)); exact BK527.out) hb); have n4_ := Aside0.mk (below_step (by repeat (first | (with_reducible first | exact HB.out | apply below_alloc | apply pw_below_drewN | apply below_drew1 | refine below_set ?_ GE514.out | refine below_set ?_ GE515.out | refine below_set ?_ GE516.out | refine below_set ?_ GE527.out) | exact HB.out)) hb); clear BK514; clear BK515; clear BK516; clear BK527; clear HB; have BK514 := n0_; have BK515 := n1_; have BK516 := n2_; have BK527 := n3_; have HB := n4_; clear n0_ n1_ n2_ n3_ n4_; (try clear hb); (try clear hb2); (try clear hk); (try clear hi)) | ((with_reducible refine gate_dst (N := 10) rfl ?_); refine box_event ?hg (N := 10) ?hd (cs := #[.int .i64 0, .int .i64 0]) (t := 23) ?hr ?_; (case hd => rfl); (case hg => rfl); (case hr => first | (go_simp; done) | (go_simp; rfl)); intro gb531 hg w151 hbox hb; have n0_ := Aside0.mk (blk_below (g := gb514) (o := .cells #[.int .i64 a0_0, .int .i64 a0_1] 23 (0, 0)) (by (with_reducible repeat (first | refine blk_drewN ?_ _ | refine blk_drew ?_ | refine blk_alloc ?_ _)); exact BK514.out) hb); have n1_ := Aside0.mk (blk_below (g := gb515) (o := .cells #[.int .i64 a1_0, .int .i64 a1_1] 23 (0, 0)) (by (with_reducible repeat (first | refine blk_drewN ?_ _ | refine blk_drew ?_ | refine blk_alloc ?_ _)); exact BK515.out) hb); have n2_ := Aside0.mk (blk_below (g := gb516) (o := .cells #[.int .i64 a2_0, .int .i64 a2_1] 23 (0, 0)) (by (with_reducible repeat (first | refine blk_drewN ?_ _ | refine blk_drew ?_ | refine blk_alloc ?_ _)); exact BK516.out) hb); have n3_ := Aside0.mk (blk_below (g := gb527) (o := .cells #[.int .i64 t524, .int .i64 t525] 23 (0, 0)) (by (with_reducible repeat (first | refine blk_drewN ?_ _ | refine blk_drew ?_ | refine blk_alloc ?_ _)); exact BK527.out) hb); have n4_ := Aside0.mk (below_step (by repeat (first | (with_reducible first | exact HB.out | apply below_alloc | apply pw_below_drewN | apply below_drew1 | refine below_set ?_ GE514.out | refine below_set ?_ GE515.out | refine below_set ?_ GE516.out | refine below_set ?_ GE527.out) | exact HB.out)) hb); have n5_ := Aside0.mk (hbox); have n6_ := Aside0.mk ((by rw [hg]; exact (below_size (by repeat (first | (with_reducible first | exact HB.out | apply below_alloc | apply pw_below_drewN | apply below_drew1 | refine below_set ?_ GE514.out | refine below_set ?_ GE515.out | refine below_set ?_ GE516.out | refine below_set ?_ GE527.out) | exact HB.out))) : w.heap.size ≤ gb531)); have n7_ := Aside0.mk ((by rw [hg]; exact (below_size (by repeat (first | (with_reducible first | exact HB.out | apply below_alloc | apply pw_below_drewN | apply below_drew1 | refine below_set ?_ GE514.out | refine below_set ?_ GE515.out | refine below_set ?_ GE516.out | refine below_set ?_ GE527.out) | exact HB.out))) : w.heap.size ≤ gb531)); have n8_ := Aside0.mk ((by rw [hg]; exact Nat.ne_of_lt (blk_lt (g := gb514) (o := .cells #[.int .i64 a0_0, .int .i64 a0_1] 23 (0, 0)) (by (with_reducible repeat (first | refine blk_drewN ?_ _ | refine blk_drew ?_ | refine blk_alloc ?_ _)); exact BK514.out)) : gb514 ≠ gb531)); have n9_ := Aside0.mk ((by rw [hg]; exact Nat.ne_of_gt (blk_lt (g := gb514) (o := .cells #[.int .i64 a0_0, .int .i64 a0_1] 23 (0, 0)) (by (with_reducible repeat (first | refine blk_drewN ?_ _ | refine blk_drew ?_ | refine blk_alloc ?_ _)); exact BK514.out)) : gb531 ≠ gb514)); have n10_ := Aside0.mk ((by rw [hg]; exact Nat.ne_of_lt (blk_lt (g := gb515) (o := .cells #[.int .i64 a1_0, .int .i64 a1_1] 23 (0, 0)) (by (with_reducible repeat (first | refine blk_drewN ?_ _ | refine blk_drew ?_ | refine blk_alloc ?_ _)); exact BK515.out)) : gb515 ≠ gb531)); have n11_ := Aside0.mk ((by rw [hg]; exact Nat.ne_of_gt (blk_lt (g := gb515) (o := .cells #[.int .i64 a1_0, .int .i64 a1_1] 23 (0, 0)) (by (with_reducible repeat (first | refine blk_drewN ?_ _ | refine blk_drew ?_ | refine blk_alloc ?_ _)); exact BK515.out)) : gb531 ≠ gb515)); have n12_ := Aside0.mk ((by rw [hg]; exact Nat.ne_of_lt (blk_lt (g := gb516) (o := .cells #[.int .i64 a2_0, .int .i64 a2_1] 23 (0, 0)) (by (with_reducible repeat (first | refine blk_drewN ?_ _ | refine blk_drew ?_ | refine blk_alloc ?_ _)); exact BK516.out)) : gb516 ≠ gb531)); have n13_ := Aside0.mk ((by rw [hg]; exact Nat.ne_of_gt (blk_lt (g := gb516) (o := .cells #[.int .i64 a2_0, .int .i64 a2_1] 23 (0, 0)) (by (with_reducible repeat (first | refine blk_drewN ?_ _ | refine blk_drew ?_ | refine blk_alloc ?_ _)); exact BK516.out)) : gb531 ≠ gb516)); have n14_ := Aside0.mk ((by rw [hg]; exact Nat.ne_of_lt (blk_lt (g := gb527) (o := .cells #[.int .i64 t524, .int .i64 t525] 23 (0, 0)) (by (with_reducible repeat (first | refine blk_drewN ?_ _ | refine blk_drew ?_ | refine blk_alloc ?_ _)); exact BK527.out)) : gb527 ≠ gb531)); have n15_ := Aside0.mk ((by rw [hg]; exact Nat.ne_of_gt (blk_lt (g := gb527) (o := .cells #[.int .i64 t524, .int .i64 t525] 23 (0, 0)) (by (with_reducible repeat (first | refine blk_drewN ?_ _ | refine blk_drew ?_ | refine blk_alloc ?_ _)); exact BK527.out)) : gb531 ≠ gb527)); clear BK514; clear BK515; clear BK516; clear BK527; clear HB; have BK514 := n0_; have BK515 := n1_; have BK516 := n2_; have BK527 := n3_; have HB := n4_; have BK531 := n5_; have GW531 := n6_; have GE531 := n7_; have NB514_531 := n8_; have NB531_514 := n9_; have NB515_531 := n10_; have NB531_515 := n11_; have NB516_531 := n12_; have NB531_516 := n13_; have NB527_531 := n14_; have NB531_527 := n15_; clear n0_ n1_ n2_ n3_ n4_ n5_ n6_ n7_ n8_ n9_ n10_ n11_ n12_ n13_ n14_ n15_; clear hb hbox hg; have hnb152 := NB531_514.out; have hnc152 := NB514_531.out; have hnb153 := NB531_515.out; have hnc153 := NB515_531.out; have hnb154 := NB531_516.out; have hnc154 := NB516_531.out; have hnb155 := NB531_527.out; have hnc155 := NB527_531.out; have hcz156_0 : w151.cell? ⟨gb531, 0, none⟩ = some (.int .i64 0) := (blk_cell BK531.out 0).trans rfl; have hcz156_1 : w151.cell? ⟨gb531, 1, none⟩ = some (.int .i64 0) := (blk_cell BK531.out 1).trans rfl; have hfz156_0 := blk_frozen BK531.out 0; have hfz156_1 := blk_frozen BK531.out 1; have hnb157 := NB515_527.out; have hnc157 := NB527_515.out; have hcz158_0 : w151.cell? ⟨gb515, 0, none⟩ = some (.int .i64 a1_0) := (blk_cell BK515.out 0).trans rfl; have hcz158_1 : w151.cell? ⟨gb515, 1, none⟩ = some (.int .i64 a1_1) := (blk_cell BK515.out 1).trans rfl; have hfz158_0 := blk_frozen BK515.out 0; have hfz158_1 := blk_frozen BK515.out 1; have hcz159_0 : w151.cell? ⟨gb516, 0, none⟩ = some (.int .i64 a2_0) := (blk_cell BK516.out 0).trans rfl; have hcz159_1 : w151.cell? ⟨gb516, 1, none⟩ = some (.int .i64 a2_1) := (blk_cell BK516.out 1).trans rfl; have hfz159_0 := blk_frozen BK516.out 0; have hfz159_1 := blk_frozen BK516.out 1) | ((with_reducible refine gate_callee (f := 13) rfl ?_); refine goesL_ (some 74) rfl rfl Try.func13 (by kernel_rfl) rfl #[.agg #[.int .i64 a1_0, .int .i64 a1_1], .agg #[.int .i64 a2_0, .int .i64 a2_1]] rfl (by (try simp only [List.map_toArray, List.map_cons, List.map_nil]); first | done | rfl | (simp only [List.length_drop, List.length_take]; rfl)) ?_; (with_reducible refine (rat_Add.calls kj67 a1_0 a1_1 a2_0 a2_1 t532 t533 t534 _ A87.out).mono ?_); rintro e w160 ⟨rfl, hb⟩; refine ⟨_, rfl, ?_⟩; have n0_ := Aside0.mk (blk_below (g := gb514) (o := .cells #[.int .i64 a0_0, .int .i64 a0_1] 23 (0, 0)) (by (with_reducible repeat (first | refine blk_drewN ?_ _ | refine blk_drew ?_ | refine blk_alloc ?_ _)); refine blk_far ?_ NB514_531.out _; (with_reducible repeat (first | refine blk_drewN ?_ _ | refine blk_drew ?_ | refine blk_alloc ?_ _)); refine blk_far ?_ NB514_531.out _; (with_reducible repeat (first | refine blk_drewN ?_ _ | refine blk_drew ?_ | refine blk_alloc ?_ _)); exact BK514.out) hb); have n1_ := Aside0.mk (blk_below (g := gb515) (o := .cells #[.int .i64 a1_0, .int .i64 a1_1] 23 (0, 0)) (by (with_reducible repeat (first | refine blk_drewN ?_ _ | refine blk_drew ?_ | refine blk_alloc ?_ _)); refine blk_far ?_ NB515_531.out _; (with_reducible repeat (first | refine blk_drewN ?_ _ | refine blk_drew ?_ | refine blk_alloc ?_ _)); refine blk_far ?_ NB515_531.out _; (with_reducible repeat (first | refine blk_drewN ?_ _ | refine blk_drew ?_ | refine blk_alloc ?_ _)); exact BK515.out) hb); have n2_ := Aside0.mk (blk_below (g := gb516) (o := .cells #[.int .i64 a2_0, .int .i64 a2_1] 23 (0, 0)) (by (with_reducible repeat (first | refine blk_drewN ?_ _ | refine blk_drew ?_ | refine blk_alloc ?_ _)); refine blk_far ?_ NB516_531.out _; (with_reducible repeat (first | refine blk_drewN ?_ _ | refine blk_drew ?_ | refine blk_alloc ?_ _)); refine blk_far ?_ NB516_531.out _; (with_reducible repeat (first | refine blk_drewN ?_ _ | refine blk_drew ?_ | refine blk_alloc ?_ _)); exact BK516.out) hb); have n3_ := Aside0.mk (blk_below (g := gb527) (o := .cells #[.int .i64 t524, .int .i64 t525] 23 (0, 0)) (by (with_reducible repeat (first | refine blk_drewN ?_ _ | refine blk_drew ?_ | refine blk_alloc ?_ _)); refine blk_far ?_ NB527_531.out _; (with_reducible repeat (first | refine blk_drewN ?_ _ | refine blk_drew ?_ | refine blk_alloc ?_ _)); refine blk_far ?_ NB527_531.out _; (with_reducible repeat (first | refine blk_drewN ?_ _ | refine blk_drew ?_ | refine blk_alloc ?_ _)); exact BK527.out) hb); have n4_ := Aside0.mk (blk_below (g := gb531) (o := .cells #[.int .i64 t528, .int .i64 t529] 23 (0, 0)) (by (with_reducible repeat (first | refine blk_drewN ?_ _ | refine blk_drew ?_ | refine blk_alloc ?_ _)); refine blk_put (cs := #[.int .i64 t528, .int .i64 0]) ?_ 1 _ rfl; (with_reducible repeat (first | refine blk_drewN ?_ _ | refine blk_drew ?_ | refine blk_alloc ?_ _)); refine blk_put (cs := #[.int .i64 0, .int .i64 0]) ?_ 0 _ rfl; (with_reducible repeat (first | refine blk_drewN ?_ _ | refine blk_drew ?_ | refine blk_alloc ?_ _)); exact BK531.out) hb); have n5_ := Aside0.mk (below_step (by repeat (first | (with_reducible first | exact HB.out | apply below_alloc | apply pw_below_drewN | apply below_drew1 | refine below_set ?_ GE514.out | refine below_set ?_ GE515.out | refine below_set ?_ GE516.out | refine below_set ?_ GE527.out | refine below_set ?_ GE531.out) | exact HB.out)) hb); clear BK514; clear BK515; clear BK516; clear BK527; clear BK531; clear HB; have BK514 := n0_; have BK515 := n1_; have BK516 := n2_; have BK527 := n3_; have BK531 := n4_; have HB := n5_; clear n0_ n1_ n2_ n3_ n4_ n5_; (try clear hb); (try clear hb2); (try clear hk); (try clear hi)) | ((with_reducible refine gate_dst (N := 12) rfl ?_); refine box_event ?hg (N := 12) ?hd (cs := #[.int .i64 0, .int .i64 0]) (t := 23) ?hr ?_; (case hd => rfl); (case hg => rfl); (case hr => first | (go_simp; done) | (go_simp; rfl)); intro gb535 hg w161 hbox hb; have n0_ := Aside0.mk (blk_below (g := gb514) (o := .cells #[.int .i64 a0_0, .int .i64 a0_1] 23 (0, 0)) (by (with_reducible repeat (first | refine blk_drewN ?_ _ | refine blk_drew ?_ | refine blk_alloc ?_ _)); exact BK514.out) hb); have n1_ := Aside0.mk (blk_below (g := gb515) (o := .cells #[.int .i64 a1_0, .int .i64 a1_1] 23 (0, 0)) (by (with_reducible repeat (first | refine blk_drewN ?_ _ | refine blk_drew ?_ | refine blk_alloc ?_ _)); exact BK515.out) hb); have n2_ := Aside0.mk (blk_below (g := gb516) (o := .cells #[.int .i64 a2_0, .int .i64 a2_1] 23 (0, 0)) (by (with_reducible repeat (first | refine blk_drewN ?_ _ | refine blk_drew ?_ | refine blk_alloc ?_ _)); exact BK516.out) hb); have n3_ := Aside0.mk (blk_below (g := gb527) (o := .cells #[.int .i64 t524, .int .i64 t525] 23 (0, 0)) (by (with_reducible repeat (first | refine blk_drewN ?_ _ | refine blk_drew ?_ | refine blk_alloc ?_ _)); exact BK527.out) hb); have n4_ := Aside0.mk (blk_below (g := gb531) (o := .cells #[.int .i64 t528, .int .i64 t529] 23 (0, 0)) (by (with_reducible repeat (first | refine blk_drewN ?_ _ | refine blk_drew ?_ | refine blk_alloc ?_ _)); exact BK531.out) hb); have n5_ := Aside0.mk (below_step (by repeat (first | (with_reducible first | exact HB.out | apply below_alloc | apply pw_below_drewN | apply below_drew1 | refine below_set ?_ GE514.out | refine below_set ?_ GE515.out | refine below_set ?_ GE516.out | refine below_set ?_ GE527.out | refine below_set ?_ GE531.out) | exact HB.out)) hb); have n6_ := Aside0.mk (hbox); have n7_ := Aside0.mk ((by rw [hg]; exact (below_size (by repeat (first | (with_reducible first | exact HB.out | apply below_alloc | apply pw_below_drewN | apply below_drew1 | refine below_set ?_ GE514.out | refine below_set ?_ GE515.out | refine below_set ?_ GE516.out | refine below_set ?_ GE527.out | refine below_set ?_ GE531.out) | exact HB.out))) : w.heap.size ≤ gb535)); have n8_ := Aside0.mk ((by rw [hg]; exact (below_size (by repeat (first | (with_reducible first | exact HB.out | apply below_alloc | apply pw_below_drewN | apply below_drew1 | refine below_set ?_ GE514.out | refine below_set ?_ GE515.out | refine below_set ?_ GE516.out | refine below_set ?_ GE527.out | refine below_set ?_ GE531.out) | exact HB.out))) : w.heap.size ≤ gb535)); have n9_ := Aside0.mk ((by rw [hg]; exact Nat.ne_of_lt (blk_lt (g := gb514) (o := .cells #[.int .i64 a0_0, .int .i64 a0_1] 23 (0, 0)) (by (with_reducible repeat (first | refine blk_drewN ?_ _ | refine blk_drew ?_ | refine blk_alloc ?_ _)); exact BK514.out)) : gb514 ≠ gb535)); have n10_ := Aside0.mk ((by rw [hg]; exact Nat.ne_of_gt (blk_lt (g := gb514) (o := .cells #[.int .i64 a0_0, .int .i64 a0_1] 23 (0, 0)) (by (with_reducible repeat (first | refine blk_drewN ?_ _ | refine blk_drew ?_ | refine blk_alloc ?_ _)); exact BK514.out)) : gb535 ≠ gb514)); have n11_ := Aside0.mk ((by rw [hg]; exact Nat.ne_of_lt (blk_lt (g := gb515) (o := .cells #[.int .i64 a1_0, .int .i64 a1_1] 23 (0, 0)) (by (with_reducible repeat (first | refine blk_drewN ?_ _ | refine blk_drew ?_ | refine blk_alloc ?_ _)); exact BK515.out)) : gb515 ≠ gb535)); have n12_ := Aside0.mk ((by rw [hg]; exact Nat.ne_of_gt (blk_lt (g := gb515) (o := .cells #[.int .i64 a1_0, .int .i64 a1_1] 23 (0, 0)) (by (with_reducible repeat (first | refine blk_drewN ?_ _ | refine blk_drew ?_ | refine blk_alloc ?_ _)); exact BK515.out)) : gb535 ≠ gb515)); have n13_ := Aside0.mk ((by rw [hg]; exact Nat.ne_of_lt (blk_lt (g := gb516) (o := .cells #[.int .i64 a2_0, .int .i64 a2_1] 23 (0, 0)) (by (with_reducible repeat (first | refine blk_drewN ?_ _ | refine blk_drew ?_ | refine blk_alloc ?_ _)); exact BK516.out)) : gb516 ≠ gb535)); have n14_ := Aside0.mk ((by rw [hg]; exact Nat.ne_of_gt (blk_lt (g := gb516) (o := .cells #[.int .i64 a2_0, .int .i64 a2_1] 23 (0, 0)) (by (with_reducible repeat (first | refine blk_drewN ?_ _ | refine blk_drew ?_ | refine blk_alloc ?_ _)); exact BK516.out)) : gb535 ≠ gb516)); have n15_ := Aside0.mk ((by rw [hg]; exact Nat.ne_of_lt (blk_lt (g := gb527) (o := .cells #[.int .i64 t524, .int .i64 t525] 23 (0, 0)) (by (with_reducible repeat (first | refine blk_drewN ?_ _ | refine blk_drew ?_ | refine blk_alloc ?_ _)); exact BK527.out)) : gb527 ≠ gb535)); have n16_ := Aside0.mk ((by rw [hg]; exact Nat.ne_of_gt (blk_lt (g := gb527) (o := .cells #[.int .i64 t524, .int .i64 t525] 23 (0, 0)) (by (with_reducible repeat (first | refine blk_drewN ?_ _ | refine blk_drew ?_ | refine blk_alloc ?_ _)); exact BK527.out)) : gb535 ≠ gb527)); have n17_ := Aside0.mk ((by rw [hg]; exact Nat.ne_of_lt (blk_lt (g := gb531) (o := .cells #[.int .i64 t528, .int .i64 t529] 23 (0, 0)) (by (with_reducible repeat (first | refine blk_drewN ?_ _ | refine blk_drew ?_ | refine blk_alloc ?_ _)); exact BK531.out)) : gb531 ≠ gb535)); have n18_ := Aside0.mk ((by rw [hg]; exact Nat.ne_of_gt (blk_lt (g := gb531) (o := .cells #[.int .i64 t528, .int .i64 t529] 23 (0, 0)) (by (with_reducible repeat (first | refine blk_drewN ?_ _ | refine blk_drew ?_ | refine blk_alloc ?_ _)); exact BK531.out)) : gb535 ≠ gb531)); clear BK514; clear BK515; clear BK516; clear BK527; clear BK531; clear HB; have BK514 := n0_; have BK515 := n1_; have BK516 := n2_; have BK527 := n3_; have BK531 := n4_; have HB := n5_; have BK535 := n6_; have GW535 := n7_; have GE535 := n8_; have NB514_535 := n9_; have NB535_514 := n10_; have NB515_535 := n11_; have NB535_515 := n12_; have NB516_535 := n13_; have NB535_516 := n14_; have NB527_535 := n15_; have NB535_527 := n16_; have NB531_535 := n17_; have NB535_531 := n18_; clear n0_ n1_ n2_ n3_ n4_ n5_ n6_ n7_ n8_ n9_ n10_ n11_ n12_ n13_ n14_ n15_ n16_ n17_ n18_; clear hb hbox hg; have hnb162 := NB535_514.out; have hnc162 := NB514_535.out; have hnb163 := NB535_515.out; have hnc163 := NB515_535.out; have hnb164 := NB535_516.out; have hnc164 := NB516_535.out; have hnb165 := NB535_527.out; have hnc165 := NB527_535.out; have hnb166 := NB535_531.out; have hnc166 := NB531_535.out; have hcz167_0 : w161.cell? ⟨gb535, 0, none⟩ = some (.int .i64 0) := (blk_cell BK535.out 0).trans rfl; have hcz167_1 : w161.cell? ⟨gb535, 1, none⟩ = some (.int .i64 0) := (blk_cell BK535.out 1).trans rfl; have hfz167_0 := blk_frozen BK535.out 0; have hfz167_1 := blk_frozen BK535.out 1))
                      go_ret
                      exact ⟨by first | rfl | (simp [errW_none, errW_some] <;> rfl) | (simp [*, errW_none, errW_some] <;> rfl), by repeat (first | (with_reducible first | exact HB.out | apply below_alloc | apply pw_below_drewN | apply below_drew1 | refine below_set ?_ GE514.out | refine below_set ?_ GE515.out | refine below_set ?_ GE516.out | refine below_set ?_ GE527.out | refine below_set ?_ GE531.out | refine below_set ?_ GE535.out) | exact HB.out)⟩

end Go.Proofs.Ytpcdcanmbokpfaa.PRat
