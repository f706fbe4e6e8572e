-- Written by a program of this session (wip/myprint.py).
import Derived.Test.YtpcdcanmbokpfaaPPHx0
import Derived.Test.YtpcdcanmbokpfaaPPHx1
import Derived.Test.YtpcdcanmbokpfaaPPHx2
import Derived.Test.YtpcdcanmbokpfaaPPHx14
import Derived.Test.YtpcdcanmbokpfaaPPHx15
namespace Go.Proofs.Ytpcdcanmbokpfaa.PPH
open Go.RowKit Go.Proofs.YtpcdcanmbokpfaaW.PrintWords Go.Proofs.YtpcdcanmbokpfaaW.PrintLast Go.Proofs.YtpcdcanmbokpfaaW.PrintMore
attribute [local go_sem] max2_int min2_int max_two min_two max_three min_three max_four min_four   -- for this text's walks alone
set_option linter.unusedVariables false
set_option linter.unusedSimpArgs false

attribute [local go_sem high] eqA23 eqA40
/-! ### ballcocklaw15_PermHalves: function 10 -/
mutual
def ballcocklaw15_PermHalves.j0 : Nat → Int → Int → Bool → Int → Int → Int → Int → Int → Option (Bool)
 | 0, _, _, _, _, _, _, _, _ => none
 | k + 1, x7, x8, x26, x237000, x237001, x237002, x237003, x237004 => if x26 = true then (ballcocklaw15_PermHalves.j1 k x7 0 x237000 x237001 x237002 x237003 x237004) else (ballcocklaw15_PermHalves.j1 k x7 x8 x237000 x237001 x237002 x237003 x237004)
def ballcocklaw15_PermHalves.j1 : Nat → Int → Int → Int → Int → Int → Int → Int → Option (Bool)
 | 0, _, _, _, _, _, _, _ => none
 | k + 1, x7, x8, x237000, x237001, x237002, x237003, x237004 => (perm_Split.f k x237000 x237001 x237002 x237003 x237004 x7 1 2 x8).bind fun bt239 => (if bt239.2.2.2.2.2.2.2.2.2.2 = 0 then (if (bt239.2.1 == bt239.2.2.2.2.2.2.1 && (bt239.2.2.1 == bt239.2.2.2.2.2.2.2.1)) = true then (if bt239.2.2.2.1 = x237003 then (if bt239.2.2.2.2.2.2.2.2.1 = x237003 then (if bt239.2.2.2.2.1 = bt239.2.2.2.2.2.2.2.2.2.1 then (some (bt239.2.2.2.2.2.1 == x7)) else (some false)) else (some false)) else (some false)) else (some false)) else (if (bt239.1 == 0 && ((bt239.2.1 == 0 && (bt239.2.2.1 == 0)) && (bt239.2.2.2.1 == 0 && (bt239.2.2.2.2.1 == 0)))) = true then (some (bt239.2.2.2.2.2.1 == 0 && ((bt239.2.2.2.2.2.2.1 == 0 && (bt239.2.2.2.2.2.2.2.1 == 0)) && (bt239.2.2.2.2.2.2.2.2.1 == 0 && (bt239.2.2.2.2.2.2.2.2.2.1 == 0))))) else (some false)))
end
def ballcocklaw15_PermHalves.f (k : Nat) (a0_0 : Int) (a0_1 : Int) (a0_2 : Int) (a0_3 : Int) (a0_4 : Int) (a1 : Int) (a2 : Int) : Option (Bool) := (ballcocklaw15_awake.f k).bind fun t237 => (if t237 = true then (if a0_0 = 0 then (ballcocklaw15_PermHalves.j0 k (Int.tmod (wrap64 (a1)) 5) ((a2) % 4294967296) ((Int.tmod (wrap64 (a1)) 5) == 3) a0_0 a0_1 a0_2 a0_3 a0_4) else (ballcocklaw15_PermHalves.j0 k (Int.tmod (wrap64 (a1)) 5) ((a2) % 4294967296) true a0_0 a0_1 a0_2 a0_3 a0_4)) else (some false))
theorem ballcocklaw15_PermHalves.mono_l : ∀ k, (∀ y0 y1 y2 y3 y4 y5 y6 y7, LeO (ballcocklaw15_PermHalves.j0 k y0 y1 y2 y3 y4 y5 y6 y7) (ballcocklaw15_PermHalves.j0 (k + 1) y0 y1 y2 y3 y4 y5 y6 y7)) ∧ (∀ y0 y1 y2 y3 y4 y5 y6, LeO (ballcocklaw15_PermHalves.j1 k y0 y1 y2 y3 y4 y5 y6) (ballcocklaw15_PermHalves.j1 (k + 1) y0 y1 y2 y3 y4 y5 y6))
 | 0 => ⟨fun _ _ _ _ _ _ _ _ r h => by simp [ballcocklaw15_PermHalves.j0] at h, fun _ _ _ _ _ _ _ r h => by simp [ballcocklaw15_PermHalves.j1] at h⟩
 | k + 1 => by
  obtain ⟨ih0, ih1⟩ := ballcocklaw15_PermHalves.mono_l k
  refine ⟨?_, ?_⟩
  ·intro y0 y1 y2 y3 y4 y5 y6 y7
   unfold ballcocklaw15_PermHalves.j0
   repeat' first
   | (with_reducible exact ih0 _ _ _ _ _ _ _ _)
   | (with_reducible exact ih1 _ _ _ _ _ _ _)
   | (with_reducible exact ballcocklaw15_awake.mono _)
   | (with_reducible exact perm_Split.mono _ _ _ _ _ _ _ _ _ _)
   | (with_reducible exact LeO.refl _)
   | (with_reducible exact LeO.none _)
   | (with_reducible refine LeO.ite ?_ ?_)
   | (with_reducible refine LeO.bind ?_ (fun _ => ?_))
   | exact ih0 _ _ _ _ _ _ _ _
   | exact ih1 _ _ _ _ _ _ _
   | exact ballcocklaw15_awake.mono _
   | exact perm_Split.mono _ _ _ _ _ _ _ _ _ _
   | exact LeO.none _
   | refine LeO.ite ?_ ?_
   | refine LeO.bind ?_ (fun _ => ?_)
  ·intro y0 y1 y2 y3 y4 y5 y6
   unfold ballcocklaw15_PermHalves.j1
   repeat' first
   | (with_reducible exact ih0 _ _ _ _ _ _ _ _)
   | (with_reducible exact ih1 _ _ _ _ _ _ _)
   | (with_reducible exact ballcocklaw15_awake.mono _)
   | (with_reducible exact perm_Split.mono _ _ _ _ _ _ _ _ _ _)
   | (with_reducible exact LeO.refl _)
   | (with_reducible exact LeO.none _)
   | (with_reducible refine LeO.ite ?_ ?_)
   | (with_reducible refine LeO.bind ?_ (fun _ => ?_))
   | exact ih0 _ _ _ _ _ _ _ _
   | exact ih1 _ _ _ _ _ _ _
   | exact ballcocklaw15_awake.mono _
   | exact perm_Split.mono _ _ _ _ _ _ _ _ _ _
   | exact LeO.none _
   | refine LeO.ite ?_ ?_
   | refine LeO.bind ?_ (fun _ => ?_)
theorem ballcocklaw15_PermHalves.mono : ∀ a0 a1 a2 a3 a4 a5 a6 k, LeO (ballcocklaw15_PermHalves.f k a0 a1 a2 a3 a4 a5 a6) (ballcocklaw15_PermHalves.f (k + 1) a0 a1 a2 a3 a4 a5 a6) := by
 intro a0 a1 a2 a3 a4 a5 a6 k
 obtain ⟨ih0, ih1⟩ := ballcocklaw15_PermHalves.mono_l k
 unfold ballcocklaw15_PermHalves.f
 repeat' first
   | (with_reducible exact ih0 _ _ _ _ _ _ _ _)
   | (with_reducible exact ih1 _ _ _ _ _ _ _)
   | (with_reducible exact ballcocklaw15_awake.mono _)
   | (with_reducible exact perm_Split.mono _ _ _ _ _ _ _ _ _ _)
   | (with_reducible exact LeO.refl _)
   | (with_reducible exact LeO.none _)
   | (with_reducible refine LeO.ite ?_ ?_)
   | (with_reducible refine LeO.bind ?_ (fun _ => ?_))
   | exact ih0 _ _ _ _ _ _ _ _
   | exact ih1 _ _ _ _ _ _ _
   | exact ballcocklaw15_awake.mono _
   | exact perm_Split.mono _ _ _ _ _ _ _ _ _ _
   | exact LeO.none _
   | refine LeO.ite ?_ ?_
   | refine LeO.bind ?_ (fun _ => ?_)
set_option maxHeartbeats 8000000 in
set_option maxRecDepth 100000 in
theorem ballcocklaw15_PermHalves.calls (k : Nat) (a0_0 : Int) (a0_1 : Int) (a0_2 : Int) (a0_3 : Int) (a0_4 : Int) (a1 : Int) (a2 : Int) (r : Bool) (w : World) (hr_ : r = true) (h : ballcocklaw15_PermHalves.f k a0_0 a0_1 a0_2 a0_3 a0_4 a1 a2 = some r) :
  Calls Try.prog 10 #[.agg #[.int .i64 a0_0, .int .i64 a0_1, .int .i64 a0_2, .int .i64 a0_3, .int .u32 a0_4], .int .u8 a1, .int .u8 a2] w fun e w' => e = .returned (.bool r) ∧ Below w.heap.size w w' := by
 have hu40 := Try.underlying40
 have hu23 := Try.underlying23
 have HB := Aside0.mk (Below.refl w.heap.size w)
 have H : ((ballcocklaw15_awake.f k).bind fun t237 => (if t237 = true then (if a0_0 = 0 then (ballcocklaw15_PermHalves.j0 k (Int.tmod (wrap64 (a1)) 5) ((a2) % 4294967296) ((Int.tmod (wrap64 (a1)) 5) == 3) a0_0 a0_1 a0_2 a0_3 a0_4) else (ballcocklaw15_PermHalves.j0 k (Int.tmod (wrap64 (a1)) 5) ((a2) % 4294967296) true a0_0 a0_1 a0_2 a0_3 a0_4)) else (some false))) = some r := h
 clear h
 replace H := Option.bind_eq_some_iff.mp H
 obtain ⟨t237, A40, H⟩ := H
 replace H : (if t237 = true then (if a0_0 = 0 then (ballcocklaw15_PermHalves.j0 k (Int.tmod (wrap64 (a1)) 5) ((a2) % 4294967296) ((Int.tmod (wrap64 (a1)) 5) == 3) a0_0 a0_1 a0_2 a0_3 a0_4) else (ballcocklaw15_PermHalves.j0 k (Int.tmod (wrap64 (a1)) 5) ((a2) % 4294967296) true a0_0 a0_1 a0_2 a0_3 a0_4)) else (some false)) = some r := H
 have A4 := Aside0.mk A40
 clear A40
 by_cases c5 : t237 = true
 ·subst c5
  have H1 : (if a0_0 = 0 then (ballcocklaw15_PermHalves.j0 k (Int.tmod (wrap64 (a1)) 5) ((a2) % 4294967296) ((Int.tmod (wrap64 (a1)) 5) == 3) a0_0 a0_1 a0_2 a0_3 a0_4) else (ballcocklaw15_PermHalves.j0 k (Int.tmod (wrap64 (a1)) 5) ((a2) % 4294967296) true a0_0 a0_1 a0_2 a0_3 a0_4)) = some r := by rw [if_pos rfl] at H; exact H
  clear H
  have H := H1
  clear H1
  have HC6 := Aside0.mk H
  clear H
  go_enter Try.func10, Try.ntmps10
  go_upto_region 5 with (first | ((with_reducible refine gate_dst (N := 3) rfl ?_); refine box_event ?hg (N := 3) ?hd (cs := #[.int .i64 a0_0, .int .i64 a0_1, .int .i64 a0_2, .int .i64 a0_3, .int .u32 a0_4]) (t := 40) ?hr ?_; (case hd => rfl); (case hg => rfl); (case hr => first | (go_simp; done) | (go_simp; rfl)); intro gb236 hg w7 hbox hb; have n0_ := Aside0.mk (below_step (by repeat (first | (with_reducible first | exact HB.out | apply below_alloc | apply pw_below_drewN | apply below_drew1) | exact HB.out)) hb); have n1_ := Aside0.mk (hbox); have n2_ := Aside0.mk ((by rw [hg]; exact (below_size (by repeat (first | (with_reducible first | exact HB.out | apply below_alloc | apply pw_below_drewN | apply below_drew1) | exact HB.out))) : w.heap.size ≤ gb236)); have n3_ := Aside0.mk ((by rw [hg]; exact (below_size (by repeat (first | (with_reducible first | exact HB.out | apply below_alloc | apply pw_below_drewN | apply below_drew1) | exact HB.out))) : w.heap.size ≤ gb236)); clear HB; have HB := n0_; have BK236 := n1_; have GW236 := n2_; have GE236 := n3_; clear n0_ n1_ n2_ n3_; clear hb hbox hg) | ((with_reducible refine gate_callee (f := 21) rfl ?_); refine goesL_ (some 13) rfl rfl Try.func21 (by kernel_rfl) rfl #[] rfl (by (try simp only [List.map_toArray, List.map_cons, List.map_nil]); first | done | rfl | (simp only [List.length_drop, List.length_take]; rfl)) ?_; (with_reducible refine (ballcocklaw15_awake.calls k  true _ A4.out).mono ?_); rintro e w8 ⟨rfl, hb⟩; refine ⟨_, rfl, ?_⟩; have n0_ := Aside0.mk (blk_below (g := gb236) (o := .cells #[.int .i64 a0_0, .int .i64 a0_1, .int .i64 a0_2, .int .i64 a0_3, .int .u32 a0_4] 40 (0, 0)) (by (with_reducible repeat (first | apply blk_drewN | apply blk_drew | apply blk_alloc)); exact BK236.out) hb); have n1_ := Aside0.mk (below_step (by repeat (first | (with_reducible first | exact HB.out | apply below_alloc | apply pw_below_drewN | apply below_drew1 | refine below_set ?_ GE236.out) | exact HB.out)) hb); clear BK236; clear HB; have BK236 := n0_; have HB := n1_; clear n0_ n1_; (try clear hb); (try clear hb2); (try clear hk); (try clear hi)))
  (try simp only [Act.put, List.setIfInBounds_toArray, List.set_cons_zero, List.set_cons_succ])
  go_cut [26] (fun v26 wc => ∃ (kq : Nat) (x26_5 : Bool), v26 = .bool x26_5 ∧ Aside0 (ballcocklaw15_PermHalves.j0 kq (Int.tmod (wrap64 (a1)) 5) ((a2) % 4294967296) x26_5 a0_0 a0_1 a0_2 a0_3 a0_4 = some r) ∧ Aside0 (kq ≤ k) ∧ Aside0 (wc.heap[gb236]? = some (.cells #[.int .i64 a0_0, .int .i64 a0_1, .int .i64 a0_2, .int .i64 a0_3, .int .u32 a0_4] 40 (0, 0))) ∧ Aside0 (Below w.heap.size w wc))
  case first =>
   have H := HC6.out
   clear HC6
   by_cases c9 : a0_0 = 0
   ·rw [if_pos c9] at H
    have c9b0 : (a0_0 == 0) = true := beq_iff_eq.mpr c9
    have c9b1 : (a0_0 != 0) = false := bne_eq_false_iff_eq.mpr c9
    clear c9
    (first | rw [c9b0] | (simp only [i64_w, i32_w]; rw [c9b0]) | skip)
    have H' := Aside0.mk H
    clear H
    have hcz10_0 : w8.cell? ⟨gb236, 0, none⟩ = some (.int .i64 a0_0) := (blk_cell BK236.out 0).trans rfl
    have hcz10_1 : w8.cell? ⟨gb236, 1, none⟩ = some (.int .i64 a0_1) := (blk_cell BK236.out 1).trans rfl
    have hcz10_2 : w8.cell? ⟨gb236, 2, none⟩ = some (.int .i64 a0_2) := (blk_cell BK236.out 2).trans rfl
    have hcz10_3 : w8.cell? ⟨gb236, 3, none⟩ = some (.int .i64 a0_3) := (blk_cell BK236.out 3).trans rfl
    have hcz10_4 : w8.cell? ⟨gb236, 4, none⟩ = some (.int .u32 a0_4) := (blk_cell BK236.out 4).trans rfl
    have hfz10_0 := blk_frozen BK236.out 0
    have hfz10_1 := blk_frozen BK236.out 1
    have hfz10_2 := blk_frozen BK236.out 2
    have hfz10_3 := blk_frozen BK236.out 3
    have hfz10_4 := blk_frozen BK236.out 4
    go_wp2
    go_meet
    case rel => exact ⟨_, (((Int.tmod (wrap64 (a1)) 5) == 3)), (by first | rfl | (simp; done) | (simp [*]; done)), H', ⟨by first | omega | exact Nat.le_refl _⟩, ⟨by (with_reducible repeat (first | apply blk_drewN | apply blk_drew | apply blk_alloc)); exact BK236.out⟩, ⟨by repeat (first | (with_reducible first | exact HB.out | apply below_alloc | apply pw_below_drewN | apply below_drew1 | refine below_set ?_ GE236.out) | exact HB.out)⟩⟩
   ·rw [if_neg c9] at H
    have c9b0 : (a0_0 == 0) = false := beq_eq_false_iff_ne.mpr c9
    have c9b1 : (a0_0 != 0) = true := bne_iff_ne.mpr c9
    (first | rw [c9b0] | (simp only [i64_w, i32_w]; rw [c9b0]) | skip)
    have H' := Aside0.mk H
    clear H
    have hcz11_0 : w8.cell? ⟨gb236, 0, none⟩ = some (.int .i64 a0_0) := (blk_cell BK236.out 0).trans rfl
    have hcz11_1 : w8.cell? ⟨gb236, 1, none⟩ = some (.int .i64 a0_1) := (blk_cell BK236.out 1).trans rfl
    have hcz11_2 : w8.cell? ⟨gb236, 2, none⟩ = some (.int .i64 a0_2) := (blk_cell BK236.out 2).trans rfl
    have hcz11_3 : w8.cell? ⟨gb236, 3, none⟩ = some (.int .i64 a0_3) := (blk_cell BK236.out 3).trans rfl
    have hcz11_4 : w8.cell? ⟨gb236, 4, none⟩ = some (.int .u32 a0_4) := (blk_cell BK236.out 4).trans rfl
    have hfz11_0 := blk_frozen BK236.out 0
    have hfz11_1 := blk_frozen BK236.out 1
    have hfz11_2 := blk_frozen BK236.out 2
    have hfz11_3 := blk_frozen BK236.out 3
    have hfz11_4 := blk_frozen BK236.out 4
    go_wp2
    go_meet
    case rel => exact ⟨_, (true), (by first | rfl | (simp; done) | (simp [*]; done)), H', ⟨by first | omega | exact Nat.le_refl _⟩, ⟨by (with_reducible repeat (first | apply blk_drewN | apply blk_drew | apply blk_alloc)); exact BK236.out⟩, ⟨by repeat (first | (with_reducible first | exact HB.out | apply below_alloc | apply pw_below_drewN | apply below_drew1 | refine below_set ?_ GE236.out) | exact HB.out)⟩⟩
  case rest =>
   clear HC6
   (try clear c1); (try clear c2); (try clear p2); (try clear c5); (try clear p6); (try clear c9); (try clear c9b0); (try clear c9b1); (try clear c10); (try clear hcz10_0); (try clear hcz10_1); (try clear hcz10_2); (try clear hcz10_3); (try clear hcz10_4); (try clear hcz11_0); (try clear hcz11_1); (try clear hcz11_2); (try clear hcz11_3); (try clear hcz11_4); (try clear hfz10_0); (try clear hfz10_1); (try clear hfz10_2); (try clear hfz10_3); (try clear hfz10_4); (try clear hfz11_0); (try clear hfz11_1); (try clear hfz11_2); (try clear hfz11_3); (try clear hfz11_4)
   obtain ⟨kq, x26_5, rfl, HA, HJ5, BK236, HB⟩ := hcut
   cases kq with
   | zero => exact absurd HA.out (by simp [ballcocklaw15_PermHalves.j0])
   | succ kj5 =>
    have H := HA.out
    clear HA
    simp only [ballcocklaw15_PermHalves.j0] at H
    have HC12 := Aside0.mk H
    clear H
    go_upto_if 26 with (fail)
    go_cut [8] (fun v8 wc => ∃ (kq : Nat) (x8_11 : Int), v8 = .int .u32 x8_11 ∧ Aside0 (ballcocklaw15_PermHalves.j1 kq (Int.tmod (wrap64 (a1)) 5) x8_11 a0_0 a0_1 a0_2 a0_3 a0_4 = some r) ∧ Aside0 (kq ≤ kj5) ∧ Aside0 (wc.heap[gb236]? = some (.cells #[.int .i64 a0_0, .int .i64 a0_1, .int .i64 a0_2, .int .i64 a0_3, .int .u32 a0_4] 40 (0, 0))) ∧ Aside0 (Below w.heap.size w wc))
    case first =>
     have H := HC12.out
     clear HC12
     by_cases c13 : x26_5 = true
     ·subst c13
      have H1 : (ballcocklaw15_PermHalves.j1 kj5 (Int.tmod (wrap64 (a1)) 5) 0 a0_0 a0_1 a0_2 a0_3 a0_4) = some r := by rw [if_pos rfl] at H; exact H
      clear H
      have H := H1
      clear H1
      have H' := Aside0.mk H
      clear H
      go_wp2
      go_meet
      case rel => exact ⟨_, (0), (by first | rfl | (simp; done) | (simp [*]; done)), H', ⟨by have := HJ5.out; first | omega | exact Nat.le_refl _⟩, ⟨by (with_reducible repeat (first | apply blk_drewN | apply blk_drew | apply blk_alloc)); exact BK236.out⟩, ⟨by repeat (first | (with_reducible first | exact HB.out | apply below_alloc | apply pw_below_drewN | apply below_drew1 | refine below_set ?_ GE236.out) | exact HB.out)⟩⟩
     ·replace c13 := Bool.eq_false_iff.mpr c13
      subst c13
      have H1 : (ballcocklaw15_PermHalves.j1 kj5 (Int.tmod (wrap64 (a1)) 5) ((a2) % 4294967296) a0_0 a0_1 a0_2 a0_3 a0_4) = some r := by rw [if_neg (show ¬ (false = true) by decide)] at H; exact H
      clear H
      have H := H1
      clear H1
      have H' := Aside0.mk H
      clear H
      go_wp2
      go_meet
      case rel => exact ⟨_, (((a2) % 4294967296)), (by first | rfl | (simp; done) | (simp [*]; done)), H', ⟨by have := HJ5.out; first | omega | exact Nat.le_refl _⟩, ⟨by (with_reducible repeat (first | apply blk_drewN | apply blk_drew | apply blk_alloc)); exact BK236.out⟩, ⟨by repeat (first | (with_reducible first | exact HB.out | apply below_alloc | apply pw_below_drewN | apply below_drew1 | refine below_set ?_ GE236.out) | exact HB.out)⟩⟩
    case rest =>
     clear HC12
     (try clear c1); (try clear c2); (try clear p2); (try clear c5); (try clear p6); (try clear c9); (try clear c9b0); (try clear c9b1); (try clear c10); (try clear c13); (try clear hcz10_0); (try clear hcz10_1); (try clear hcz10_2); (try clear hcz10_3); (try clear hcz10_4); (try clear hcz11_0); (try clear hcz11_1); (try clear hcz11_2); (try clear hcz11_3); (try clear hcz11_4); (try clear hfz10_0); (try clear hfz10_1); (try clear hfz10_2); (try clear hfz10_3); (try clear hfz10_4); (try clear hfz11_0); (try clear hfz11_1); (try clear hfz11_2); (try clear hfz11_3); (try clear hfz11_4); (try clear p2); (try clear p6)
     obtain ⟨kq, x8_11, rfl, HA, HJ11, BK236, HB⟩ := hcut
     cases kq with
     | zero => exact absurd HA.out (by simp [ballcocklaw15_PermHalves.j1])
     | succ kj11 =>
      have H := HA.out
      clear HA
      simp only [ballcocklaw15_PermHalves.j1] at H
      replace H := Option.bind_eq_some_iff.mp H
      obtain ⟨⟨t239, t240, t241, t242, t243, t244, t245, t246, t247, t248, t249⟩, A140, H⟩ := H
      replace H : (if t249 = 0 then (if (t240 == t245 && (t241 == t246)) = true then (if t242 = a0_3 then (if t247 = a0_3 then (if t243 = t248 then (some (t244 == (Int.tmod (wrap64 (a1)) 5))) else (some false)) else (some false)) else (some false)) else (some false)) else (if (t239 == 0 && ((t240 == 0 && (t241 == 0)) && (t242 == 0 && (t243 == 0)))) = true then (some (t244 == 0 && ((t245 == 0 && (t246 == 0)) && (t247 == 0 && (t248 == 0))))) else (some false))) = some r := H
      have A14 := Aside0.mk A140
      clear A140
      by_cases c15 : t249 = 0
      ·rw [if_pos c15] at H
       have c15b0 : (t249 == 0) = true := beq_iff_eq.mpr c15
       have c15b1 : (t249 != 0) = false := bne_eq_false_iff_eq.mpr c15
       clear c15
       by_cases c16 : (t240 == t245 && (t241 == t246)) = true
       ·rw [if_pos c16] at H
        have c16b0 : (t240 == t245 && (t241 == t246)) = true := c16
        (try (have c16b1 : decide (t240 = t245 && (t241 == t246)) = true := by simpa using c16))
        (try (have c16b2 : (t240 == t245 && (t241 == t246)) = true := by simpa using c16))
        clear c16
        by_cases c17 : t242 = a0_3
        ·rw [if_pos c17] at H
         have c17b0 : (t242 == a0_3) = true := beq_iff_eq.mpr c17
         have c17b1 : (t242 != a0_3) = false := bne_eq_false_iff_eq.mpr c17
         clear c17
         by_cases c18 : t247 = a0_3
         ·rw [if_pos c18] at H
          have c18b0 : (t247 == a0_3) = true := beq_iff_eq.mpr c18
          have c18b1 : (t247 != a0_3) = false := bne_eq_false_iff_eq.mpr c18
          clear c18
          by_cases c19 : t243 = t248
          ·rw [if_pos c19] at H
           have c19b0 : (t243 == t248) = true := beq_iff_eq.mpr c19
           have c19b1 : (t243 != t248) = false := bne_eq_false_iff_eq.mpr c19
           clear c19
           obtain rfl := Option.some.inj H
           go_wp2_with (first | ((with_reducible refine gate_dst (N := 9) rfl ?_); refine box_event ?hg (N := 9) ?hd (cs := #[.int .i64 0, .int .i64 0]) (t := 23) ?hr ?_; (case hd => rfl); (case hg => rfl); (case hr => first | (go_simp; done) | (go_simp; rfl)); intro gb238 hg w20 hbox hb; have n0_ := Aside0.mk (blk_below (g := gb236) (o := .cells #[.int .i64 a0_0, .int .i64 a0_1, .int .i64 a0_2, .int .i64 a0_3, .int .u32 a0_4] 40 (0, 0)) (by (with_reducible repeat (first | apply blk_drewN | apply blk_drew | apply blk_alloc)); exact BK236.out) hb); have n1_ := Aside0.mk (below_step (by repeat (first | (with_reducible first | exact HB.out | apply below_alloc | apply pw_below_drewN | apply below_drew1 | refine below_set ?_ GE236.out) | exact HB.out)) hb); have n2_ := Aside0.mk (hbox); have n3_ := Aside0.mk ((by rw [hg]; exact (below_size (by repeat (first | (with_reducible first | exact HB.out | apply below_alloc | apply pw_below_drewN | apply below_drew1 | refine below_set ?_ GE236.out) | exact HB.out))) : w.heap.size ≤ gb238)); have n4_ := Aside0.mk ((by rw [hg]; exact (below_size (by repeat (first | (with_reducible first | exact HB.out | apply below_alloc | apply pw_below_drewN | apply below_drew1 | refine below_set ?_ GE236.out) | exact HB.out))) : w.heap.size ≤ gb238)); have n5_ := Aside0.mk ((by rw [hg]; exact Nat.ne_of_lt (blk_lt (g := gb236) (o := .cells #[.int .i64 a0_0, .int .i64 a0_1, .int .i64 a0_2, .int .i64 a0_3, .int .u32 a0_4] 40 (0, 0)) (by (with_reducible repeat (first | apply blk_drewN | apply blk_drew | apply blk_alloc)); exact BK236.out)) : gb236 ≠ gb238)); have n6_ := Aside0.mk ((by rw [hg]; exact Nat.ne_of_gt (blk_lt (g := gb236) (o := .cells #[.int .i64 a0_0, .int .i64 a0_1, .int .i64 a0_2, .int .i64 a0_3, .int .u32 a0_4] 40 (0, 0)) (by (with_reducible repeat (first | apply blk_drewN | apply blk_drew | apply blk_alloc)); exact BK236.out)) : gb238 ≠ gb236)); clear BK236; clear HB; have BK236 := n0_; have HB := n1_; have BK238 := n2_; have GW238 := n3_; have GE238 := n4_; have NB236_238 := n5_; have NB238_236 := n6_; clear n0_ n1_ n2_ n3_ n4_ n5_ n6_; clear hb hbox hg; have hnb21 := NB238_236.out; have hnc21 := NB236_238.out; have hcz22_0 : w20.cell? ⟨gb238, 0, none⟩ = some (.int .i64 0) := (blk_cell BK238.out 0).trans rfl; have hcz22_1 : w20.cell? ⟨gb238, 1, none⟩ = some (.int .i64 0) := (blk_cell BK238.out 1).trans rfl; have hfz22_0 := blk_frozen BK238.out 0; have hfz22_1 := blk_frozen BK238.out 1; have hcz23_0 : w20.cell? ⟨gb236, 0, none⟩ = some (.int .i64 a0_0) := (blk_cell BK236.out 0).trans rfl; have hcz23_1 : w20.cell? ⟨gb236, 1, none⟩ = some (.int .i64 a0_1) := (blk_cell BK236.out 1).trans rfl; have hcz23_2 : w20.cell? ⟨gb236, 2, none⟩ = some (.int .i64 a0_2) := (blk_cell BK236.out 2).trans rfl; have hcz23_3 : w20.cell? ⟨gb236, 3, none⟩ = some (.int .i64 a0_3) := (blk_cell BK236.out 3).trans rfl; have hcz23_4 : w20.cell? ⟨gb236, 4, none⟩ = some (.int .u32 a0_4) := (blk_cell BK236.out 4).trans rfl; have hfz23_0 := blk_frozen BK236.out 0; have hfz23_1 := blk_frozen BK236.out 1; have hfz23_2 := blk_frozen BK236.out 2; have hfz23_3 := blk_frozen BK236.out 3; have hfz23_4 := blk_frozen BK236.out 4) | ((with_reducible refine gate_callee (f := 23) rfl ?_); refine goesL_ (some 33) rfl rfl Try.func23 (by kernel_rfl) rfl #[.agg #[.int .i64 a0_0, .int .i64 a0_1, .int .i64 a0_2, .int .i64 a0_3, .int .u32 a0_4], .int .i64 (Int.tmod (wrap64 (a1)) 5), .agg #[.int .i64 1, .int .i64 2], .int .u32 x8_11] rfl (by (try simp only [List.map_toArray, List.map_cons, List.map_nil]); first | done | rfl | (simp only [List.length_drop, List.length_take]; rfl)) ?_; (with_reducible refine (perm_Split.calls kj11 a0_0 a0_1 a0_2 a0_3 a0_4 (Int.tmod (wrap64 (a1)) 5) 1 2 x8_11 t239 t240 t241 t242 t243 t244 t245 t246 t247 t248 t249 _ A14.out).mono ?_); rintro e w24 ⟨rfl, hb⟩; refine ⟨_, rfl, ?_⟩; have n0_ := Aside0.mk (blk_below (g := gb236) (o := .cells #[.int .i64 a0_0, .int .i64 a0_1, .int .i64 a0_2, .int .i64 a0_3, .int .u32 a0_4] 40 (0, 0)) (by (repeat (first | (with_reducible first | apply blk_drewN | apply blk_drew | apply blk_alloc) | refine blk_far ?_ NB236_238.out _)); exact BK236.out) hb); have n1_ := Aside0.mk (blk_below (g := gb238) (o := .cells #[.int .i64 1, .int .i64 2] 23 (0, 0)) (by (with_reducible repeat (first | apply blk_drewN | apply blk_drew | apply blk_alloc)); refine blk_put (cs := #[.int .i64 1, .int .i64 0]) ?_ 1 _ rfl; (with_reducible repeat (first | apply blk_drewN | apply blk_drew | apply blk_alloc)); refine blk_put (cs := #[.int .i64 0, .int .i64 0]) ?_ 0 _ rfl; (with_reducible repeat (first | apply blk_drewN | apply blk_drew | apply blk_alloc)); exact BK238.out) hb); have n2_ := Aside0.mk (below_step (by repeat (first | (with_reducible first | exact HB.out | apply below_alloc | apply pw_below_drewN | apply below_drew1 | refine below_set ?_ GE236.out | refine below_set ?_ GE238.out) | exact HB.out)) hb); clear BK236; clear BK238; clear HB; have BK236 := n0_; have BK238 := n1_; have HB := n2_; clear n0_ n1_ n2_; (try clear hb); (try clear hb2); (try clear hk); (try clear hi)) | ((with_reducible refine gate_dst (N := 10) rfl ?_); refine box_event ?hg (N := 10) ?hd (cs := #[.int .i64 0, .int .i64 0, .int .i64 0, .int .i64 0, .int .u32 0]) (t := 40) ?hr ?_; (case hd => rfl); (case hg => rfl); (case hr => first | (go_simp; done) | (go_simp; rfl)); intro gb250 hg w25 hbox hb; have n0_ := Aside0.mk (blk_below (g := gb236) (o := .cells #[.int .i64 a0_0, .int .i64 a0_1, .int .i64 a0_2, .int .i64 a0_3, .int .u32 a0_4] 40 (0, 0)) (by (with_reducible repeat (first | apply blk_drewN | apply blk_drew | apply blk_alloc)); exact BK236.out) hb); have n1_ := Aside0.mk (blk_below (g := gb238) (o := .cells #[.int .i64 1, .int .i64 2] 23 (0, 0)) (by (with_reducible repeat (first | apply blk_drewN | apply blk_drew | apply blk_alloc)); exact BK238.out) hb); have n2_ := Aside0.mk (below_step (by repeat (first | (with_reducible first | exact HB.out | apply below_alloc | apply pw_below_drewN | apply below_drew1 | refine below_set ?_ GE236.out | refine below_set ?_ GE238.out) | exact HB.out)) hb); have n3_ := Aside0.mk (hbox); have n4_ := Aside0.mk ((by rw [hg]; exact (below_size (by repeat (first | (with_reducible first | exact HB.out | apply below_alloc | apply pw_below_drewN | apply below_drew1 | refine below_set ?_ GE236.out | refine below_set ?_ GE238.out) | exact HB.out))) : w.heap.size ≤ gb250)); have n5_ := Aside0.mk ((by rw [hg]; exact (below_size (by repeat (first | (with_reducible first | exact HB.out | apply below_alloc | apply pw_below_drewN | apply below_drew1 | refine below_set ?_ GE236.out | refine below_set ?_ GE238.out) | exact HB.out))) : w.heap.size ≤ gb250)); have n6_ := Aside0.mk ((by rw [hg]; exact Nat.ne_of_lt (blk_lt (g := gb236) (o := .cells #[.int .i64 a0_0, .int .i64 a0_1, .int .i64 a0_2, .int .i64 a0_3, .int .u32 a0_4] 40 (0, 0)) (by (with_reducible repeat (first | apply blk_drewN | apply blk_drew | apply blk_alloc)); exact BK236.out)) : gb236 ≠ gb250)); have n7_ := Aside0.mk ((by rw [hg]; exact Nat.ne_of_gt (blk_lt (g := gb236) (o := .cells #[.int .i64 a0_0, .int .i64 a0_1, .int .i64 a0_2, .int .i64 a0_3, .int .u32 a0_4] 40 (0, 0)) (by (with_reducible repeat (first | apply blk_drewN | apply blk_drew | apply blk_alloc)); exact BK236.out)) : gb250 ≠ gb236)); have n8_ := Aside0.mk ((by rw [hg]; exact Nat.ne_of_lt (blk_lt (g := gb238) (o := .cells #[.int .i64 1, .int .i64 2] 23 (0, 0)) (by (with_reducible repeat (first | apply blk_drewN | apply blk_drew | apply blk_alloc)); exact BK238.out)) : gb238 ≠ gb250)); have n9_ := Aside0.mk ((by rw [hg]; exact Nat.ne_of_gt (blk_lt (g := gb238) (o := .cells #[.int .i64 1, .int .i64 2] 23 (0, 0)) (by (with_reducible repeat (first | apply blk_drewN | apply blk_drew | apply blk_alloc)); exact BK238.out)) : gb250 ≠ gb238)); clear BK236; clear BK238; clear HB; have BK236 := n0_; have BK238 := n1_; have HB := n2_; have BK250 := n3_; have GW250 := n4_; have GE250 := n5_; have NB236_250 := n6_; have NB250_236 := n7_; have NB238_250 := n8_; have NB250_238 := n9_; clear n0_ n1_ n2_ n3_ n4_ n5_ n6_ n7_ n8_ n9_; clear hb hbox hg) | ((with_reducible refine gate_dst (N := 11) rfl ?_); refine box_event ?hg (N := 11) ?hd (cs := #[.int .i64 0, .int .i64 0, .int .i64 0, .int .i64 0, .int .u32 0]) (t := 40) ?hr ?_; (case hd => rfl); (case hg => rfl); (case hr => first | (go_simp; done) | (go_simp; rfl)); intro gb251 hg w26 hbox hb; have n0_ := Aside0.mk (blk_below (g := gb236) (o := .cells #[.int .i64 a0_0, .int .i64 a0_1, .int .i64 a0_2, .int .i64 a0_3, .int .u32 a0_4] 40 (0, 0)) (by (with_reducible repeat (first | apply blk_drewN | apply blk_drew | apply blk_alloc)); exact BK236.out) hb); have n1_ := Aside0.mk (blk_below (g := gb238) (o := .cells #[.int .i64 1, .int .i64 2] 23 (0, 0)) (by (with_reducible repeat (first | apply blk_drewN | apply blk_drew | apply blk_alloc)); exact BK238.out) hb); have n2_ := Aside0.mk (blk_below (g := gb250) (o := .cells #[.int .i64 0, .int .i64 0, .int .i64 0, .int .i64 0, .int .u32 0] 40 (0, 0)) (by (with_reducible repeat (first | apply blk_drewN | apply blk_drew | apply blk_alloc)); exact BK250.out) hb); have n3_ := Aside0.mk (below_step (by repeat (first | (with_reducible first | exact HB.out | apply below_alloc | apply pw_below_drewN | apply below_drew1 | refine below_set ?_ GE236.out | refine below_set ?_ GE238.out | refine below_set ?_ GE250.out) | exact HB.out)) hb); have n4_ := Aside0.mk (hbox); have n5_ := Aside0.mk ((by rw [hg]; exact (below_size (by repeat (first | (with_reducible first | exact HB.out | apply below_alloc | apply pw_below_drewN | apply below_drew1 | refine below_set ?_ GE236.out | refine below_set ?_ GE238.out | refine below_set ?_ GE250.out) | exact HB.out))) : w.heap.size ≤ gb251)); have n6_ := Aside0.mk ((by rw [hg]; exact (below_size (by repeat (first | (with_reducible first | exact HB.out | apply below_alloc | apply pw_below_drewN | apply below_drew1 | refine below_set ?_ GE236.out | refine below_set ?_ GE238.out | refine below_set ?_ GE250.out) | exact HB.out))) : w.heap.size ≤ gb251)); have n7_ := Aside0.mk ((by rw [hg]; exact Nat.ne_of_lt (blk_lt (g := gb236) (o := .cells #[.int .i64 a0_0, .int .i64 a0_1, .int .i64 a0_2, .int .i64 a0_3, .int .u32 a0_4] 40 (0, 0)) (by (with_reducible repeat (first | apply blk_drewN | apply blk_drew | apply blk_alloc)); exact BK236.out)) : gb236 ≠ gb251)); have n8_ := Aside0.mk ((by rw [hg]; exact Nat.ne_of_gt (blk_lt (g := gb236) (o := .cells #[.int .i64 a0_0, .int .i64 a0_1, .int .i64 a0_2, .int .i64 a0_3, .int .u32 a0_4] 40 (0, 0)) (by (with_reducible repeat (first | apply blk_drewN | apply blk_drew | apply blk_alloc)); exact BK236.out)) : gb251 ≠ gb236)); have n9_ := Aside0.mk ((by rw [hg]; exact Nat.ne_of_lt (blk_lt (g := gb238) (o := .cells #[.int .i64 1, .int .i64 2] 23 (0, 0)) (by (with_reducible repeat (first | apply blk_drewN | apply blk_drew | apply blk_alloc)); exact BK238.out)) : gb238 ≠ gb251)); have n10_ := Aside0.mk ((by rw [hg]; exact Nat.ne_of_gt (blk_lt (g := gb238) (o := .cells #[.int .i64 1, .int .i64 2] 23 (0, 0)) (by (with_reducible repeat (first | apply blk_drewN | apply blk_drew | apply blk_alloc)); exact BK238.out)) : gb251 ≠ gb238)); have n11_ := Aside0.mk ((by rw [hg]; exact Nat.ne_of_lt (blk_lt (g := gb250) (o := .cells #[.int .i64 0, .int .i64 0, .int .i64 0, .int .i64 0, .int .u32 0] 40 (0, 0)) (by (with_reducible repeat (first | apply blk_drewN | apply blk_drew | apply blk_alloc)); exact BK250.out)) : gb250 ≠ gb251)); have n12_ := Aside0.mk ((by rw [hg]; exact Nat.ne_of_gt (blk_lt (g := gb250) (o := .cells #[.int .i64 0, .int .i64 0, .int .i64 0, .int .i64 0, .int .u32 0] 40 (0, 0)) (by (with_reducible repeat (first | apply blk_drewN | apply blk_drew | apply blk_alloc)); exact BK250.out)) : gb251 ≠ gb250)); clear BK236; clear BK238; clear BK250; clear HB; have BK236 := n0_; have BK238 := n1_; have BK250 := n2_; have HB := n3_; have BK251 := n4_; have GW251 := n5_; have GE251 := n6_; have NB236_251 := n7_; have NB251_236 := n8_; have NB238_251 := n9_; have NB251_238 := n10_; have NB250_251 := n11_; have NB251_250 := n12_; clear n0_ n1_ n2_ n3_ n4_ n5_ n6_ n7_ n8_ n9_ n10_ n11_ n12_; clear hb hbox hg; have hnb27 := NB250_236.out; have hnc27 := NB236_250.out; have hnb28 := NB250_238.out; have hnc28 := NB238_250.out; have hnb29 := NB250_251.out; have hnc29 := NB251_250.out; have hcz30_0 : w26.cell? ⟨gb250, 0, none⟩ = some (.int .i64 0) := (blk_cell BK250.out 0).trans rfl; have hcz30_1 : w26.cell? ⟨gb250, 1, none⟩ = some (.int .i64 0) := (blk_cell BK250.out 1).trans rfl; have hcz30_2 : w26.cell? ⟨gb250, 2, none⟩ = some (.int .i64 0) := (blk_cell BK250.out 2).trans rfl; have hcz30_3 : w26.cell? ⟨gb250, 3, none⟩ = some (.int .i64 0) := (blk_cell BK250.out 3).trans rfl; have hcz30_4 : w26.cell? ⟨gb250, 4, none⟩ = some (.int .u32 0) := (blk_cell BK250.out 4).trans rfl; have hfz30_0 := blk_frozen BK250.out 0; have hfz30_1 := blk_frozen BK250.out 1; have hfz30_2 := blk_frozen BK250.out 2; have hfz30_3 := blk_frozen BK250.out 3; have hfz30_4 := blk_frozen BK250.out 4; have hnb31 := NB251_236.out; have hnc31 := NB236_251.out; have hnb32 := NB251_238.out; have hnc32 := NB238_251.out; have hcz33_0 : w26.cell? ⟨gb251, 0, none⟩ = some (.int .i64 0) := (blk_cell BK251.out 0).trans rfl; have hcz33_1 : w26.cell? ⟨gb251, 1, none⟩ = some (.int .i64 0) := (blk_cell BK251.out 1).trans rfl; have hcz33_2 : w26.cell? ⟨gb251, 2, none⟩ = some (.int .i64 0) := (blk_cell BK251.out 2).trans rfl; have hcz33_3 : w26.cell? ⟨gb251, 3, none⟩ = some (.int .i64 0) := (blk_cell BK251.out 3).trans rfl; have hcz33_4 : w26.cell? ⟨gb251, 4, none⟩ = some (.int .u32 0) := (blk_cell BK251.out 4).trans rfl; have hfz33_0 := blk_frozen BK251.out 0; have hfz33_1 := blk_frozen BK251.out 1; have hfz33_2 := blk_frozen BK251.out 2; have hfz33_3 := blk_frozen BK251.out 3; have hfz33_4 := blk_frozen BK251.out 4; have hcz34_0 : w26.cell? ⟨gb236, 0, none⟩ = some (.int .i64 a0_0) := (blk_cell BK236.out 0).trans rfl; have hcz34_1 : w26.cell? ⟨gb236, 1, none⟩ = some (.int .i64 a0_1) := (blk_cell BK236.out 1).trans rfl; have hcz34_2 : w26.cell? ⟨gb236, 2, none⟩ = some (.int .i64 a0_2) := (blk_cell BK236.out 2).trans rfl; have hcz34_3 : w26.cell? ⟨gb236, 3, none⟩ = some (.int .i64 a0_3) := (blk_cell BK236.out 3).trans rfl; have hcz34_4 : w26.cell? ⟨gb236, 4, none⟩ = some (.int .u32 a0_4) := (blk_cell BK236.out 4).trans rfl; have hfz34_0 := blk_frozen BK236.out 0; have hfz34_1 := blk_frozen BK236.out 1; have hfz34_2 := blk_frozen BK236.out 2; have hfz34_3 := blk_frozen BK236.out 3; have hfz34_4 := blk_frozen BK236.out 4))
           go_ret
           exact ⟨by first | rfl | (simp [errW_none, errW_some] <;> rfl) | (simp [*, errW_none, errW_some] <;> rfl), by repeat (first | (with_reducible first | exact HB.out | apply below_alloc | apply pw_below_drewN | apply below_drew1 | refine below_set ?_ GE236.out | refine below_set ?_ GE238.out | refine below_set ?_ GE250.out | refine below_set ?_ GE251.out) | exact HB.out)⟩
          ·rw [if_neg c19] at H
           have c19b0 : (t243 == t248) = false := beq_eq_false_iff_ne.mpr c19
           have c19b1 : (t243 != t248) = true := bne_iff_ne.mpr c19
           subst hr_
           exact absurd H (by simp)
         ·rw [if_neg c18] at H
          have c18b0 : (t247 == a0_3) = false := beq_eq_false_iff_ne.mpr c18
          have c18b1 : (t247 != a0_3) = true := bne_iff_ne.mpr c18
          subst hr_
          exact absurd H (by simp)
        ·rw [if_neg c17] at H
         have c17b0 : (t242 == a0_3) = false := beq_eq_false_iff_ne.mpr c17
         have c17b1 : (t242 != a0_3) = true := bne_iff_ne.mpr c17
         subst hr_
         exact absurd H (by simp)
       ·rw [if_neg c16] at H
        have c16b0 : (t240 == t245 && (t241 == t246)) = false := by simpa using c16
        (try (have c16b1 : decide (t240 = t245 && (t241 == t246)) = false := by simpa using c16))
        (try (have c16b2 : (t240 == t245 && (t241 == t246)) = false := by simpa using c16))
        (try (have c16b3 : ¬ (t240 = t245 && (t241 == t246)) := by simpa using c16))
        clear c16
        subst hr_
        exact absurd H (by simp)
      ·rw [if_neg c15] at H
       have c15b0 : (t249 == 0) = false := beq_eq_false_iff_ne.mpr c15
       have c15b1 : (t249 != 0) = true := bne_iff_ne.mpr c15
       by_cases c35 : (t239 == 0 && ((t240 == 0 && (t241 == 0)) && (t242 == 0 && (t243 == 0)))) = true
       ·rw [if_pos c35] at H
        have c35b0 : (t239 == 0 && ((t240 == 0 && (t241 == 0)) && (t242 == 0 && (t243 == 0)))) = true := c35
        (try (have c35b1 : decide (t239 = 0 && ((t240 == 0 && (t241 == 0)) && (t242 == 0 && (t243 == 0)))) = true := by simpa using c35))
        (try (have c35b2 : (t239 == 0 && ((t240 == 0 && (t241 == 0)) && (t242 == 0 && (t243 == 0)))) = true := by simpa using c35))
        clear c35
        obtain rfl := Option.some.inj H
        go_wp2_with (first | ((with_reducible refine gate_dst (N := 9) rfl ?_); refine box_event ?hg (N := 9) ?hd (cs := #[.int .i64 0, .int .i64 0]) (t := 23) ?hr ?_; (case hd => rfl); (case hg => rfl); (case hr => first | (go_simp; done) | (go_simp; rfl)); intro gb238 hg w36 hbox hb; have n0_ := Aside0.mk (blk_below (g := gb236) (o := .cells #[.int .i64 a0_0, .int .i64 a0_1, .int .i64 a0_2, .int .i64 a0_3, .int .u32 a0_4] 40 (0, 0)) (by (with_reducible repeat (first | apply blk_drewN | apply blk_drew | apply blk_alloc)); exact BK236.out) hb); have n1_ := Aside0.mk (below_step (by repeat (first | (with_reducible first | exact HB.out | apply below_alloc | apply pw_below_drewN | apply below_drew1 | refine below_set ?_ GE236.out) | exact HB.out)) hb); have n2_ := Aside0.mk (hbox); have n3_ := Aside0.mk ((by rw [hg]; exact (below_size (by repeat (first | (with_reducible first | exact HB.out | apply below_alloc | apply pw_below_drewN | apply below_drew1 | refine below_set ?_ GE236.out) | exact HB.out))) : w.heap.size ≤ gb238)); have n4_ := Aside0.mk ((by rw [hg]; exact (below_size (by repeat (first | (with_reducible first | exact HB.out | apply below_alloc | apply pw_below_drewN | apply below_drew1 | refine below_set ?_ GE236.out) | exact HB.out))) : w.heap.size ≤ gb238)); have n5_ := Aside0.mk ((by rw [hg]; exact Nat.ne_of_lt (blk_lt (g := gb236) (o := .cells #[.int .i64 a0_0, .int .i64 a0_1, .int .i64 a0_2, .int .i64 a0_3, .int .u32 a0_4] 40 (0, 0)) (by (with_reducible repeat (first | apply blk_drewN | apply blk_drew | apply blk_alloc)); exact BK236.out)) : gb236 ≠ gb238)); have n6_ := Aside0.mk ((by rw [hg]; exact Nat.ne_of_gt (blk_lt (g := gb236) (o := .cells #[.int .i64 a0_0, .int .i64 a0_1, .int .i64 a0_2, .int .i64 a0_3, .int .u32 a0_4] 40 (0, 0)) (by (with_reducible repeat (first | apply blk_drewN | apply blk_drew | apply blk_alloc)); exact BK236.out)) : gb238 ≠ gb236)); clear BK236; clear HB; have BK236 := n0_; have HB := n1_; have BK238 := n2_; have GW238 := n3_; have GE238 := n4_; have NB236_238 := n5_; have NB238_236 := n6_; clear n0_ n1_ n2_ n3_ n4_ n5_ n6_; clear hb hbox hg; have hnb37 := NB238_236.out; have hnc37 := NB236_238.out; have hcz38_0 : w36.cell? ⟨gb238, 0, none⟩ = some (.int .i64 0) := (blk_cell BK238.out 0).trans rfl; have hcz38_1 : w36.cell? ⟨gb238, 1, none⟩ = some (.int .i64 0) := (blk_cell BK238.out 1).trans rfl; have hfz38_0 := blk_frozen BK238.out 0; have hfz38_1 := blk_frozen BK238.out 1; have hcz39_0 : w36.cell? ⟨gb236, 0, none⟩ = some (.int .i64 a0_0) := (blk_cell BK236.out 0).trans rfl; have hcz39_1 : w36.cell? ⟨gb236, 1, none⟩ = some (.int .i64 a0_1) := (blk_cell BK236.out 1).trans rfl; have hcz39_2 : w36.cell? ⟨gb236, 2, none⟩ = some (.int .i64 a0_2) := (blk_cell BK236.out 2).trans rfl; have hcz39_3 : w36.cell? ⟨gb236, 3, none⟩ = some (.int .i64 a0_3) := (blk_cell BK236.out 3).trans rfl; have hcz39_4 : w36.cell? ⟨gb236, 4, none⟩ = some (.int .u32 a0_4) := (blk_cell BK236.out 4).trans rfl; have hfz39_0 := blk_frozen BK236.out 0; have hfz39_1 := blk_frozen BK236.out 1; have hfz39_2 := blk_frozen BK236.out 2; have hfz39_3 := blk_frozen BK236.out 3; have hfz39_4 := blk_frozen BK236.out 4) | ((with_reducible refine gate_callee (f := 23) rfl ?_); refine goesL_ (some 33) rfl rfl Try.func23 (by kernel_rfl) rfl #[.agg #[.int .i64 a0_0, .int .i64 a0_1, .int .i64 a0_2, .int .i64 a0_3, .int .u32 a0_4], .int .i64 (Int.tmod (wrap64 (a1)) 5), .agg #[.int .i64 1, .int .i64 2], .int .u32 x8_11] rfl (by (try simp only [List.map_toArray, List.map_cons, List.map_nil]); first | done | rfl | (simp only [List.length_drop, List.length_take]; rfl)) ?_; (with_reducible refine (perm_Split.calls kj11 a0_0 a0_1 a0_2 a0_3 a0_4 (Int.tmod (wrap64 (a1)) 5) 1 2 x8_11 t239 t240 t241 t242 t243 t244 t245 t246 t247 t248 t249 _ A14.out).mono ?_); rintro e w40 ⟨rfl, hb⟩; refine ⟨_, rfl, ?_⟩; have n0_ := Aside0.mk (blk_below (g := gb236) (o := .cells #[.int .i64 a0_0, .int .i64 a0_1, .int .i64 a0_2, .int .i64 a0_3, .int .u32 a0_4] 40 (0, 0)) (by (repeat (first | (with_reducible first | apply blk_drewN | apply blk_drew | apply blk_alloc) | refine blk_far ?_ NB236_238.out _)); exact BK236.out) hb); have n1_ := Aside0.mk (blk_below (g := gb238) (o := .cells #[.int .i64 1, .int .i64 2] 23 (0, 0)) (by (with_reducible repeat (first | apply blk_drewN | apply blk_drew | apply blk_alloc)); refine blk_put (cs := #[.int .i64 1, .int .i64 0]) ?_ 1 _ rfl; (with_reducible repeat (first | apply blk_drewN | apply blk_drew | apply blk_alloc)); refine blk_put (cs := #[.int .i64 0, .int .i64 0]) ?_ 0 _ rfl; (with_reducible repeat (first | apply blk_drewN | apply blk_drew | apply blk_alloc)); exact BK238.out) hb); have n2_ := Aside0.mk (below_step (by repeat (first | (with_reducible first | exact HB.out | apply below_alloc | apply pw_below_drewN | apply below_drew1 | refine below_set ?_ GE236.out | refine below_set ?_ GE238.out) | exact HB.out)) hb); clear BK236; clear BK238; clear HB; have BK236 := n0_; have BK238 := n1_; have HB := n2_; clear n0_ n1_ n2_; (try clear hb); (try clear hb2); (try clear hk); (try clear hi)) | ((with_reducible refine gate_dst (N := 10) rfl ?_); refine box_event ?hg (N := 10) ?hd (cs := #[.int .i64 0, .int .i64 0, .int .i64 0, .int .i64 0, .int .u32 0]) (t := 40) ?hr ?_; (case hd => rfl); (case hg => rfl); (case hr => first | (go_simp; done) | (go_simp; rfl)); intro gb250 hg w41 hbox hb; have n0_ := Aside0.mk (blk_below (g := gb236) (o := .cells #[.int .i64 a0_0, .int .i64 a0_1, .int .i64 a0_2, .int .i64 a0_3, .int .u32 a0_4] 40 (0, 0)) (by (with_reducible repeat (first | apply blk_drewN | apply blk_drew | apply blk_alloc)); exact BK236.out) hb); have n1_ := Aside0.mk (blk_below (g := gb238) (o := .cells #[.int .i64 1, .int .i64 2] 23 (0, 0)) (by (with_reducible repeat (first | apply blk_drewN | apply blk_drew | apply blk_alloc)); exact BK238.out) hb); have n2_ := Aside0.mk (below_step (by repeat (first | (with_reducible first | exact HB.out | apply below_alloc | apply pw_below_drewN | apply below_drew1 | refine below_set ?_ GE236.out | refine below_set ?_ GE238.out) | exact HB.out)) hb); have n3_ := Aside0.mk (hbox); have n4_ := Aside0.mk ((by rw [hg]; exact (below_size (by repeat (first | (with_reducible first | exact HB.out | apply below_alloc | apply pw_below_drewN | apply below_drew1 | refine below_set ?_ GE236.out | refine below_set ?_ GE238.out) | exact HB.out))) : w.heap.size ≤ gb250)); have n5_ := Aside0.mk ((by rw [hg]; exact (below_size (by repeat (first | (with_reducible first | exact HB.out | apply below_alloc | apply pw_below_drewN | apply below_drew1 | refine below_set ?_ GE236.out | refine below_set ?_ GE238.out) | exact HB.out))) : w.heap.size ≤ gb250)); have n6_ := Aside0.mk ((by rw [hg]; exact Nat.ne_of_lt (blk_lt (g := gb236) (o := .cells #[.int .i64 a0_0, .int .i64 a0_1, .int .i64 a0_2, .int .i64 a0_3, .int .u32 a0_4] 40 (0, 0)) (by (with_reducible repeat (first | apply blk_drewN | apply blk_drew | apply blk_alloc)); exact BK236.out)) : gb236 ≠ gb250)); have n7_ := Aside0.mk ((by rw [hg]; exact Nat.ne_of_gt (blk_lt (g := gb236) (o := .cells #[.int .i64 a0_0, .int .i64 a0_1, .int .i64 a0_2, .int .i64 a0_3, .int .u32 a0_4] 40 (0, 0)) (by (with_reducible repeat (first | apply blk_drewN | apply blk_drew | apply blk_alloc)); exact BK236.out)) : gb250 ≠ gb236)); have n8_ := Aside0.mk ((by rw [hg]; exact Nat.ne_of_lt (blk_lt (g := gb238) (o := .cells #[.int .i64 1, .int .i64 2] 23 (0, 0)) (by (with_reducible repeat (first | apply blk_drewN | apply blk_drew | apply blk_alloc)); exact BK238.out)) : gb238 ≠ gb250)); have n9_ := Aside0.mk ((by rw [hg]; exact Nat.ne_of_gt (blk_lt (g := gb238) (o := .cells #[.int .i64 1, .int .i64 2] 23 (0, 0)) (by (with_reducible repeat (first | apply blk_drewN | apply blk_drew | apply blk_alloc)); exact BK238.out)) : gb250 ≠ gb238)); clear BK236; clear BK238; clear HB; have BK236 := n0_; have BK238 := n1_; have HB := n2_; have BK250 := n3_; have GW250 := n4_; have GE250 := n5_; have NB236_250 := n6_; have NB250_236 := n7_; have NB238_250 := n8_; have NB250_238 := n9_; clear n0_ n1_ n2_ n3_ n4_ n5_ n6_ n7_ n8_ n9_; clear hb hbox hg) | ((with_reducible refine gate_dst (N := 11) rfl ?_); refine box_event ?hg (N := 11) ?hd (cs := #[.int .i64 0, .int .i64 0, .int .i64 0, .int .i64 0, .int .u32 0]) (t := 40) ?hr ?_; (case hd => rfl); (case hg => rfl); (case hr => first | (go_simp; done) | (go_simp; rfl)); intro gb251 hg w42 hbox hb; have n0_ := Aside0.mk (blk_below (g := gb236) (o := .cells #[.int .i64 a0_0, .int .i64 a0_1, .int .i64 a0_2, .int .i64 a0_3, .int .u32 a0_4] 40 (0, 0)) (by (with_reducible repeat (first | apply blk_drewN | apply blk_drew | apply blk_alloc)); exact BK236.out) hb); have n1_ := Aside0.mk (blk_below (g := gb238) (o := .cells #[.int .i64 1, .int .i64 2] 23 (0, 0)) (by (with_reducible repeat (first | apply blk_drewN | apply blk_drew | apply blk_alloc)); exact BK238.out) hb); have n2_ := Aside0.mk (blk_below (g := gb250) (o := .cells #[.int .i64 0, .int .i64 0, .int .i64 0, .int .i64 0, .int .u32 0] 40 (0, 0)) (by (with_reducible repeat (first | apply blk_drewN | apply blk_drew | apply blk_alloc)); exact BK250.out) hb); have n3_ := Aside0.mk (below_step (by repeat (first | (with_reducible first | exact HB.out | apply below_alloc | apply pw_below_drewN | apply below_drew1 | refine below_set ?_ GE236.out | refine below_set ?_ GE238.out | refine below_set ?_ GE250.out) | exact HB.out)) hb); have n4_ := Aside0.mk (hbox); have n5_ := Aside0.mk ((by rw [hg]; exact (below_size (by repeat (first | (with_reducible first | exact HB.out | apply below_alloc | apply pw_below_drewN | apply below_drew1 | refine below_set ?_ GE236.out | refine below_set ?_ GE238.out | refine below_set ?_ GE250.out) | exact HB.out))) : w.heap.size ≤ gb251)); have n6_ := Aside0.mk ((by rw [hg]; exact (below_size (by repeat (first | (with_reducible first | exact HB.out | apply below_alloc | apply pw_below_drewN | apply below_drew1 | refine below_set ?_ GE236.out | refine below_set ?_ GE238.out | refine below_set ?_ GE250.out) | exact HB.out))) : w.heap.size ≤ gb251)); have n7_ := Aside0.mk ((by rw [hg]; exact Nat.ne_of_lt (blk_lt (g := gb236) (o := .cells #[.int .i64 a0_0, .int .i64 a0_1, .int .i64 a0_2, .int .i64 a0_3, .int .u32 a0_4] 40 (0, 0)) (by (with_reducible repeat (first | apply blk_drewN | apply blk_drew | apply blk_alloc)); exact BK236.out)) : gb236 ≠ gb251)); have n8_ := Aside0.mk ((by rw [hg]; exact Nat.ne_of_gt (blk_lt (g := gb236) (o := .cells #[.int .i64 a0_0, .int .i64 a0_1, .int .i64 a0_2, .int .i64 a0_3, .int .u32 a0_4] 40 (0, 0)) (by (with_reducible repeat (first | apply blk_drewN | apply blk_drew | apply blk_alloc)); exact BK236.out)) : gb251 ≠ gb236)); have n9_ := Aside0.mk ((by rw [hg]; exact Nat.ne_of_lt (blk_lt (g := gb238) (o := .cells #[.int .i64 1, .int .i64 2] 23 (0, 0)) (by (with_reducible repeat (first | apply blk_drewN | apply blk_drew | apply blk_alloc)); exact BK238.out)) : gb238 ≠ gb251)); have n10_ := Aside0.mk ((by rw [hg]; exact Nat.ne_of_gt (blk_lt (g := gb238) (o := .cells #[.int .i64 1, .int .i64 2] 23 (0, 0)) (by (with_reducible repeat (first | apply blk_drewN | apply blk_drew | apply blk_alloc)); exact BK238.out)) : gb251 ≠ gb238)); have n11_ := Aside0.mk ((by rw [hg]; exact Nat.ne_of_lt (blk_lt (g := gb250) (o := .cells #[.int .i64 0, .int .i64 0, .int .i64 0, .int .i64 0, .int .u32 0] 40 (0, 0)) (by (with_reducible repeat (first | apply blk_drewN | apply blk_drew | apply blk_alloc)); exact BK250.out)) : gb250 ≠ gb251)); have n12_ := Aside0.mk ((by rw [hg]; exact Nat.ne_of_gt (blk_lt (g := gb250) (o := .cells #[.int .i64 0, .int .i64 0, .int .i64 0, .int .i64 0, .int .u32 0] 40 (0, 0)) (by (with_reducible repeat (first | apply blk_drewN | apply blk_drew | apply blk_alloc)); exact BK250.out)) : gb251 ≠ gb250)); clear BK236; clear BK238; clear BK250; clear HB; have BK236 := n0_; have BK238 := n1_; have BK250 := n2_; have HB := n3_; have BK251 := n4_; have GW251 := n5_; have GE251 := n6_; have NB236_251 := n7_; have NB251_236 := n8_; have NB238_251 := n9_; have NB251_238 := n10_; have NB250_251 := n11_; have NB251_250 := n12_; clear n0_ n1_ n2_ n3_ n4_ n5_ n6_ n7_ n8_ n9_ n10_ n11_ n12_; clear hb hbox hg; have hnb43 := NB250_236.out; have hnc43 := NB236_250.out; have hnb44 := NB250_238.out; have hnc44 := NB238_250.out; have hnb45 := NB250_251.out; have hnc45 := NB251_250.out; have hcz46_0 : w42.cell? ⟨gb250, 0, none⟩ = some (.int .i64 0) := (blk_cell BK250.out 0).trans rfl; have hcz46_1 : w42.cell? ⟨gb250, 1, none⟩ = some (.int .i64 0) := (blk_cell BK250.out 1).trans rfl; have hcz46_2 : w42.cell? ⟨gb250, 2, none⟩ = some (.int .i64 0) := (blk_cell BK250.out 2).trans rfl; have hcz46_3 : w42.cell? ⟨gb250, 3, none⟩ = some (.int .i64 0) := (blk_cell BK250.out 3).trans rfl; have hcz46_4 : w42.cell? ⟨gb250, 4, none⟩ = some (.int .u32 0) := (blk_cell BK250.out 4).trans rfl; have hfz46_0 := blk_frozen BK250.out 0; have hfz46_1 := blk_frozen BK250.out 1; have hfz46_2 := blk_frozen BK250.out 2; have hfz46_3 := blk_frozen BK250.out 3; have hfz46_4 := blk_frozen BK250.out 4; have hnb47 := NB251_236.out; have hnc47 := NB236_251.out; have hnb48 := NB251_238.out; have hnc48 := NB238_251.out; have hcz49_0 : w42.cell? ⟨gb251, 0, none⟩ = some (.int .i64 0) := (blk_cell BK251.out 0).trans rfl; have hcz49_1 : w42.cell? ⟨gb251, 1, none⟩ = some (.int .i64 0) := (blk_cell BK251.out 1).trans rfl; have hcz49_2 : w42.cell? ⟨gb251, 2, none⟩ = some (.int .i64 0) := (blk_cell BK251.out 2).trans rfl; have hcz49_3 : w42.cell? ⟨gb251, 3, none⟩ = some (.int .i64 0) := (blk_cell BK251.out 3).trans rfl; have hcz49_4 : w42.cell? ⟨gb251, 4, none⟩ = some (.int .u32 0) := (blk_cell BK251.out 4).trans rfl; have hfz49_0 := blk_frozen BK251.out 0; have hfz49_1 := blk_frozen BK251.out 1; have hfz49_2 := blk_frozen BK251.out 2; have hfz49_3 := blk_frozen BK251.out 3; have hfz49_4 := blk_frozen BK251.out 4))
        go_ret
        exact ⟨by first | rfl | (simp [errW_none, errW_some] <;> rfl) | (simp [*, errW_none, errW_some] <;> rfl), by repeat (first | (with_reducible first | exact HB.out | apply below_alloc | apply pw_below_drewN | apply below_drew1 | refine below_set ?_ GE236.out | refine below_set ?_ GE238.out | refine below_set ?_ GE250.out | refine below_set ?_ GE251.out) | exact HB.out)⟩
       ·rw [if_neg c35] at H
        have c35b0 : (t239 == 0 && ((t240 == 0 && (t241 == 0)) && (t242 == 0 && (t243 == 0)))) = false := by simpa using c35
        (try (have c35b1 : decide (t239 = 0 && ((t240 == 0 && (t241 == 0)) && (t242 == 0 && (t243 == 0)))) = false := by simpa using c35))
        (try (have c35b2 : (t239 == 0 && ((t240 == 0 && (t241 == 0)) && (t242 == 0 && (t243 == 0)))) = false := by simpa using c35))
        (try (have c35b3 : ¬ (t239 = 0 && ((t240 == 0 && (t241 == 0)) && (t242 == 0 && (t243 == 0)))) := by simpa using c35))
        clear c35
        subst hr_
        exact absurd H (by simp)
 ·replace c5 := Bool.eq_false_iff.mpr c5
  subst c5
  have H1 : (some false) = some r := by rw [if_neg (show ¬ (false = true) by decide)] at H; exact H
  clear H
  have H := H1
  clear H1
  subst hr_
  exact absurd H (by simp)

end Go.Proofs.Ytpcdcanmbokpfaa.PPH
