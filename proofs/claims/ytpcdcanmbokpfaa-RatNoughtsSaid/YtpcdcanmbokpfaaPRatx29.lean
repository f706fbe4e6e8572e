-- Written by a program of this session (wip/myprint.py).
import Derived.Test.YtpcdcanmbokpfaaPRatx0
import Derived.Test.YtpcdcanmbokpfaaPRatx1
import Derived.Test.YtpcdcanmbokpfaaPRatx3
import Derived.Test.YtpcdcanmbokpfaaPRatx8
import Derived.Test.YtpcdcanmbokpfaaPRatx9
import Derived.Test.YtpcdcanmbokpfaaPRatx10
import Derived.Test.YtpcdcanmbokpfaaPRatx12
import Derived.Test.YtpcdcanmbokpfaaPRatx13
namespace Go.Proofs.Ytpcdcanmbokpfaa.PRat
open Go.RowKit Go.Proofs.YtpcdcanmbokpfaaW.PrintWords Go.Proofs.YtpcdcanmbokpfaaW.PrintLast Go.Proofs.YtpcdcanmbokpfaaW.PrintMore
attribute [local go_sem] max2_int min2_int max_two min_two max_three min_three max_four min_four   -- for this text's walks alone
set_option linter.unusedVariables false
set_option linter.unusedSimpArgs false

attribute [local go_sem high] eqA23
/-! ### ballcocklaw01_RatNoughts: function 7 -/
mutual
def ballcocklaw01_RatNoughts.j0 : Nat → Bool → Int → Int → Option (Bool)
  | 0, _, _, _ => none
  | k + 1, x21, x538000, x538001 => if x21 = true then ((ballcocklaw01_awake.f k).bind fun t540 => (some t540)) else ((rat_Add.f k x538000 x538001 0 1).bind fun bt543 => ((rat_Mul.f k x538000 x538001 1 1).bind fun bt547 => ((rat_Sub.f k x538000 x538001 x538000 x538001).bind fun bt551 => ((rat_Div.f k x538000 x538001 x538000 x538001).bind fun bt555 => ((rat_Mul.f k x538000 x538001 0 1).bind fun bt559 => (if (!(bt543.1 == x538000) || (!(bt543.2.1 == x538001))) = true then (ballcocklaw01_RatNoughts.j1 k bt555.2.2 true x538000 x538001 1 1 bt555.1 bt555.2.1) else (if (!(bt547.1 == x538000) || (!(bt547.2.1 == x538001))) = true then (ballcocklaw01_RatNoughts.j1 k bt555.2.2 true x538000 x538001 1 1 bt555.1 bt555.2.1) else (if (!(bt551.1 == 0) || (!(bt551.2.1 == 1))) = true then (ballcocklaw01_RatNoughts.j1 k bt555.2.2 true x538000 x538001 1 1 bt555.1 bt555.2.1) else (if (!(bt559.1 == 0) || (!(bt559.2.1 == 1))) = true then (ballcocklaw01_RatNoughts.j1 k bt555.2.2 true x538000 x538001 1 1 bt555.1 bt555.2.1) else (if bt543.2.2 = 0 then (if bt547.2.2 = 0 then (if bt551.2.2 = 0 then (ballcocklaw01_RatNoughts.j1 k bt555.2.2 (bt559.2.2 != 0) x538000 x538001 1 1 bt555.1 bt555.2.1) else (ballcocklaw01_RatNoughts.j1 k bt555.2.2 true x538000 x538001 1 1 bt555.1 bt555.2.1)) else (ballcocklaw01_RatNoughts.j1 k bt555.2.2 true x538000 x538001 1 1 bt555.1 bt555.2.1)) else (ballcocklaw01_RatNoughts.j1 k bt555.2.2 true x538000 x538001 1 1 bt555.1 bt555.2.1)))))))))))
def ballcocklaw01_RatNoughts.j1 : Nat → Int → Bool → Int → Int → Int → Int → Int → Int → Option (Bool)
  | 0, _, _, _, _, _, _, _, _ => none
  | k + 1, x12, x88, x538000, x538001, x543000, x543001, x559000, x559001 => if x88 = true then (some false) else (if x538000 = 0 then (if x12 = 2 then (some true) else (some false)) else (if x12 = 0 then (some (x559000 == x543000 && (x559001 == x543001))) else (some false)))
end
def ballcocklaw01_RatNoughts.f (k : Nat) (a0_0 : Int) (a0_1 : Int) : Option (Bool) := (ballcocklaw01_awake.f k).bind fun t538 => (if t538 = true then ((rat_Right.f k a0_0 a0_1).bind fun t539 => (ballcocklaw01_RatNoughts.j0 k (!t539) a0_0 a0_1)) else (ballcocklaw01_RatNoughts.j0 k true a0_0 a0_1))
theorem ballcocklaw01_RatNoughts.mono_l : ∀ k, (∀ y0 y1 y2, LeO (ballcocklaw01_RatNoughts.j0 k y0 y1 y2) (ballcocklaw01_RatNoughts.j0 (k + 1) y0 y1 y2)) ∧ (∀ y0 y1 y2 y3 y4 y5 y6 y7, LeO (ballcocklaw01_RatNoughts.j1 k y0 y1 y2 y3 y4 y5 y6 y7) (ballcocklaw01_RatNoughts.j1 (k + 1) y0 y1 y2 y3 y4 y5 y6 y7))
  | 0 => ⟨fun _ _ _ r h => by simp [ballcocklaw01_RatNoughts.j0] at h, fun _ _ _ _ _ _ _ _ r h => by simp [ballcocklaw01_RatNoughts.j1] at h⟩
  | k + 1 => by
    obtain ⟨ih0, ih1⟩ := ballcocklaw01_RatNoughts.mono_l k
    refine ⟨?_, ?_⟩
    · intro y0 y1 y2
      unfold ballcocklaw01_RatNoughts.j0
      repeat' first
      | (with_reducible exact ih0 _ _ _)
      | (with_reducible exact ih1 _ _ _ _ _ _ _ _)
      | (with_reducible exact ballcocklaw01_awake.mono _)
      | (with_reducible exact rat_Add.mono _ _ _ _ _)
      | (with_reducible exact rat_Div.mono _ _ _ _ _)
      | (with_reducible exact rat_Mul.mono _ _ _ _ _)
      | (with_reducible exact rat_Right.mono _ _ _)
      | (with_reducible exact rat_Sub.mono _ _ _ _ _)
      | (with_reducible exact LeO.refl _)
      | (with_reducible exact LeO.none _)
      | (with_reducible refine LeO.ite ?_ ?_)
      | (with_reducible refine LeO.bind ?_ (fun _ => ?_))
      | exact ih0 _ _ _
      | exact ih1 _ _ _ _ _ _ _ _
      | exact ballcocklaw01_awake.mono _
      | exact rat_Add.mono _ _ _ _ _
      | exact rat_Div.mono _ _ _ _ _
      | exact rat_Mul.mono _ _ _ _ _
      | exact rat_Right.mono _ _ _
      | exact rat_Sub.mono _ _ _ _ _
      | exact LeO.none _
      | refine LeO.ite ?_ ?_
      | refine LeO.bind ?_ (fun _ => ?_)
    · intro y0 y1 y2 y3 y4 y5 y6 y7
      unfold ballcocklaw01_RatNoughts.j1
      repeat' first
      | (with_reducible exact ih0 _ _ _)
      | (with_reducible exact ih1 _ _ _ _ _ _ _ _)
      | (with_reducible exact ballcocklaw01_awake.mono _)
      | (with_reducible exact rat_Add.mono _ _ _ _ _)
      | (with_reducible exact rat_Div.mono _ _ _ _ _)
      | (with_reducible exact rat_Mul.mono _ _ _ _ _)
      | (with_reducible exact rat_Right.mono _ _ _)
      | (with_reducible exact rat_Sub.mono _ _ _ _ _)
      | (with_reducible exact LeO.refl _)
      | (with_reducible exact LeO.none _)
      | (with_reducible refine LeO.ite ?_ ?_)
      | (with_reducible refine LeO.bind ?_ (fun _ => ?_))
      | exact ih0 _ _ _
      | exact ih1 _ _ _ _ _ _ _ _
      | exact ballcocklaw01_awake.mono _
      | exact rat_Add.mono _ _ _ _ _
      | exact rat_Div.mono _ _ _ _ _
      | exact rat_Mul.mono _ _ _ _ _
      | exact rat_Right.mono _ _ _
      | exact rat_Sub.mono _ _ _ _ _
      | exact LeO.none _
      | refine LeO.ite ?_ ?_
      | refine LeO.bind ?_ (fun _ => ?_)
theorem ballcocklaw01_RatNoughts.mono : ∀ a0 a1 k, LeO (ballcocklaw01_RatNoughts.f k a0 a1) (ballcocklaw01_RatNoughts.f (k + 1) a0 a1) := by
  intro a0 a1 k
  obtain ⟨ih0, ih1⟩ := ballcocklaw01_RatNoughts.mono_l k
  unfold ballcocklaw01_RatNoughts.f
  repeat' first
      | (with_reducible exact ih0 _ _ _)
      | (with_reducible exact ih1 _ _ _ _ _ _ _ _)
      | (with_reducible exact ballcocklaw01_awake.mono _)
      | (with_reducible exact rat_Add.mono _ _ _ _ _)
      | (with_reducible exact rat_Div.mono _ _ _ _ _)
      | (with_reducible exact rat_Mul.mono _ _ _ _ _)
      | (with_reducible exact rat_Right.mono _ _ _)
      | (with_reducible exact rat_Sub.mono _ _ _ _ _)
      | (with_reducible exact LeO.refl _)
      | (with_reducible exact LeO.none _)
      | (with_reducible refine LeO.ite ?_ ?_)
      | (with_reducible refine LeO.bind ?_ (fun _ => ?_))
      | exact ih0 _ _ _
      | exact ih1 _ _ _ _ _ _ _ _
      | exact ballcocklaw01_awake.mono _
      | exact rat_Add.mono _ _ _ _ _
      | exact rat_Div.mono _ _ _ _ _
      | exact rat_Mul.mono _ _ _ _ _
      | exact rat_Right.mono _ _ _
      | exact rat_Sub.mono _ _ _ _ _
      | exact LeO.none _
      | refine LeO.ite ?_ ?_
      | refine LeO.bind ?_ (fun _ => ?_)
set_option maxHeartbeats 8000000 in
set_option maxRecDepth 100000 in
theorem ballcocklaw01_RatNoughts.calls (k : Nat) (a0_0 : Int) (a0_1 : Int) (r : Bool) (w : World) (hr_ : r = true) (h : ballcocklaw01_RatNoughts.f k a0_0 a0_1 = some r) :
    Calls Try.prog 7 #[.agg #[.int .i64 a0_0, .int .i64 a0_1]] w fun e w' => e = .returned (.bool r) ∧ Below w.heap.size w w' := by
  have hu23 := Try.underlying23
  have HB := Aside0.mk (Below.refl w.heap.size w)
  have H : ((ballcocklaw01_awake.f k).bind fun t538 => (if t538 = true then ((rat_Right.f k a0_0 a0_1).bind fun t539 => (ballcocklaw01_RatNoughts.j0 k (!t539) a0_0 a0_1)) else (ballcocklaw01_RatNoughts.j0 k true a0_0 a0_1))) = some r := h
  clear h
  have HC2 := Aside0.mk H
  clear H
  go_enter Try.func7, Try.ntmps7
  go_upto_region 1 with (first | ((with_reducible refine gate_dst (N := 1) rfl ?_); refine box_event ?hg (N := 1) ?hd (cs := #[.int .i64 a0_0, .int .i64 a0_1]) (t := 23) ?hr ?_; (case hd => rfl); (case hg => rfl); (case hr => first | (go_simp; done) | (go_simp; rfl)); intro gb537 hg w3 hbox hb; have n0_ := Aside0.mk (below_step (by repeat (first | (with_reducible first | exact HB.out | apply below_alloc | apply pw_below_drewN | apply below_drew1) | exact HB.out)) hb); have n1_ := Aside0.mk (hbox); have n2_ := Aside0.mk ((by rw [hg]; exact (below_size (by repeat (first | (with_reducible first | exact HB.out | apply below_alloc | apply pw_below_drewN | apply below_drew1) | exact HB.out))) : w.heap.size ≤ gb537)); have n3_ := Aside0.mk ((by rw [hg]; exact (below_size (by repeat (first | (with_reducible first | exact HB.out | apply below_alloc | apply pw_below_drewN | apply below_drew1) | exact HB.out))) : w.heap.size ≤ gb537)); clear HB; have HB := n0_; have BK537 := n1_; have GW537 := n2_; have GE537 := n3_; clear n0_ n1_ n2_ n3_; clear hb hbox hg))
  (try simp only [Act.put, List.setIfInBounds_toArray, List.set_cons_zero, List.set_cons_succ])
  go_cut [21] (fun v21 wc => ∃ (kq : Nat) (x21_1 : Bool), v21 = .bool x21_1 ∧ Aside0 (ballcocklaw01_RatNoughts.j0 kq x21_1 a0_0 a0_1 = some r) ∧ Aside0 (kq ≤ k) ∧ Aside0 (wc.heap[gb537]? = some (.cells #[.int .i64 a0_0, .int .i64 a0_1] 23 (0, 0))) ∧ Aside0 (Below w.heap.size w wc))
  case first =>
    have H := HC2.out
    clear HC2
    replace H := Option.bind_eq_some_iff.mp H
    obtain ⟨t538, A40, H⟩ := H
    replace H : (if t538 = true then ((rat_Right.f k a0_0 a0_1).bind fun t539 => (ballcocklaw01_RatNoughts.j0 k (!t539) a0_0 a0_1)) else (ballcocklaw01_RatNoughts.j0 k true a0_0 a0_1)) = some r := H
    have A4 := Aside0.mk A40
    clear A40
    by_cases c5 : t538 = true
    · subst c5
      have H1 : ((rat_Right.f k a0_0 a0_1).bind fun t539 => (ballcocklaw01_RatNoughts.j0 k (!t539) a0_0 a0_1)) = some r := by rw [if_pos rfl] at H; exact H
      clear H
      have H := H1
      clear H1
      replace H := Option.bind_eq_some_iff.mp H
      obtain ⟨t539, A60, H⟩ := H
      replace H : (ballcocklaw01_RatNoughts.j0 k (!t539) a0_0 a0_1) = some r := H
      have A6 := Aside0.mk A60
      clear A60
      have H' := Aside0.mk H
      clear H
      go_wp2_with (first | ((with_reducible refine gate_callee (f := 11) rfl ?_); refine goesL_ (some 15) rfl rfl Try.func11 (by kernel_rfl) rfl #[] rfl (by (try simp only [List.map_toArray, List.map_cons, List.map_nil]); first | done | rfl | (simp only [List.length_drop, List.length_take]; rfl)) ?_; (with_reducible refine (ballcocklaw01_awake.calls k  true _ A4.out).mono ?_); rintro e w7 ⟨rfl, hb⟩; refine ⟨_, rfl, ?_⟩; have n0_ := Aside0.mk (blk_below (g := gb537) (o := .cells #[.int .i64 a0_0, .int .i64 a0_1] 23 (0, 0)) (by (with_reducible repeat (first | refine blk_drewN ?_ _ | refine blk_drew ?_ | refine blk_alloc ?_ _)); exact BK537.out) hb); have n1_ := Aside0.mk (below_step (by repeat (first | (with_reducible first | exact HB.out | apply below_alloc | apply pw_below_drewN | apply below_drew1 | refine below_set ?_ GE537.out) | exact HB.out)) hb); clear BK537; clear HB; have BK537 := n0_; have HB := n1_; clear n0_ n1_; (try clear hb); (try clear hb2); (try clear hk); (try clear hi); have hcz8_0 : w7.cell? ⟨gb537, 0, none⟩ = some (.int .i64 a0_0) := (blk_cell BK537.out 0).trans rfl; have hcz8_1 : w7.cell? ⟨gb537, 1, none⟩ = some (.int .i64 a0_1) := (blk_cell BK537.out 1).trans rfl; have hfz8_0 := blk_frozen BK537.out 0; have hfz8_1 := blk_frozen BK537.out 1) | (go_at_call 12; (with_reducible refine (rat_Right.calls k a0_0 a0_1 t539 _ A6.out).mono ?_); rintro e w9 ⟨rfl, hb⟩; have n0_ := Aside0.mk (blk_below (g := gb537) (o := .cells #[.int .i64 a0_0, .int .i64 a0_1] 23 (0, 0)) (by (with_reducible repeat (first | refine blk_drewN ?_ _ | refine blk_drew ?_ | refine blk_alloc ?_ _)); exact BK537.out) hb); have n1_ := Aside0.mk (below_step (by repeat (first | (with_reducible first | exact HB.out | apply below_alloc | apply pw_below_drewN | apply below_drew1 | refine below_set ?_ GE537.out) | exact HB.out)) hb); clear BK537; clear HB; have BK537 := n0_; have HB := n1_; clear n0_ n1_; (try clear hb); (try clear hb2); (try clear hk); (try clear hi)))
      go_meet
      case rel => exact ⟨_, (!t539), (by first | rfl | (simp; done) | (simp [*]; done)), H', ⟨by first | omega | exact Nat.le_refl _⟩, ⟨by (with_reducible repeat (first | refine blk_drewN ?_ _ | refine blk_drew ?_ | refine blk_alloc ?_ _)); exact BK537.out⟩, ⟨by repeat (first | (with_reducible first | exact HB.out | apply below_alloc | apply pw_below_drewN | apply below_drew1 | refine below_set ?_ GE537.out) | exact HB.out)⟩⟩
    · replace c5 := Bool.eq_false_iff.mpr c5
      subst c5
      have H1 : (ballcocklaw01_RatNoughts.j0 k true a0_0 a0_1) = some r := by rw [if_neg (show ¬ (false = true) by decide)] at H; exact H
      clear H
      have H := H1
      clear H1
      have H' := Aside0.mk H
      clear H
      go_wp2_with (first | ((with_reducible refine gate_callee (f := 11) rfl ?_); refine goesL_ (some 15) rfl rfl Try.func11 (by kernel_rfl) rfl #[] rfl (by (try simp only [List.map_toArray, List.map_cons, List.map_nil]); first | done | rfl | (simp only [List.length_drop, List.length_take]; rfl)) ?_; (with_reducible refine (ballcocklaw01_awake.calls k  false _ A4.out).mono ?_); rintro e w10 ⟨rfl, hb⟩; refine ⟨_, rfl, ?_⟩; have n0_ := Aside0.mk (blk_below (g := gb537) (o := .cells #[.int .i64 a0_0, .int .i64 a0_1] 23 (0, 0)) (by (with_reducible repeat (first | refine blk_drewN ?_ _ | refine blk_drew ?_ | refine blk_alloc ?_ _)); exact BK537.out) hb); have n1_ := Aside0.mk (below_step (by repeat (first | (with_reducible first | exact HB.out | apply below_alloc | apply pw_below_drewN | apply below_drew1 | refine below_set ?_ GE537.out) | exact HB.out)) hb); clear BK537; clear HB; have BK537 := n0_; have HB := n1_; clear n0_ n1_; (try clear hb); (try clear hb2); (try clear hk); (try clear hi)))
      go_meet
      case rel => exact ⟨_, (true), (by first | rfl | (simp; done) | (simp [*]; done)), H', ⟨by first | omega | exact Nat.le_refl _⟩, ⟨by (with_reducible repeat (first | refine blk_drewN ?_ _ | refine blk_drew ?_ | refine blk_alloc ?_ _)); exact BK537.out⟩, ⟨by repeat (first | (with_reducible first | exact HB.out | apply below_alloc | apply pw_below_drewN | apply below_drew1 | refine below_set ?_ GE537.out) | exact HB.out)⟩⟩
  case rest =>
    clear HC2
    try clear c1
    try clear p2
    try clear c5
    try clear c7
    try clear hcz8_0
    try clear hcz8_1
    try clear hfz8_0
    try clear hfz8_1
    obtain ⟨kq, x21_1, rfl, HA, HJ1, BK537, HB⟩ := hcut
    cases kq with
    | zero => exact absurd HA.out (by simp [ballcocklaw01_RatNoughts.j0])
    | succ kj1 =>
      have H := HA.out
      clear HA
      simp only [ballcocklaw01_RatNoughts.j0] at H
      by_cases c11 : x21_1 = true
      · subst c11
        have H1 : ((ballcocklaw01_awake.f kj1).bind fun t540 => (some t540)) = some r := by rw [if_pos rfl] at H; exact H
        clear H
        have H := H1
        clear H1
        replace H := Option.bind_eq_some_iff.mp H
        obtain ⟨t540, A120, H⟩ := H
        replace H : (some t540) = some r := H
        have A12 := Aside0.mk A120
        clear A120
        obtain rfl := Option.some.inj H
        go_wp2_with (first | ((with_reducible refine gate_callee (f := 11) rfl ?_); refine goesL_ (some 22) rfl rfl Try.func11 (by kernel_rfl) rfl #[] rfl (by (try simp only [List.map_toArray, List.map_cons, List.map_nil]); first | done | rfl | (simp only [List.length_drop, List.length_take]; rfl)) ?_; (with_reducible refine (ballcocklaw01_awake.calls kj1  t540 _ A12.out).mono ?_); rintro e w13 ⟨rfl, hb⟩; refine ⟨_, rfl, ?_⟩; have n0_ := Aside0.mk (blk_below (g := gb537) (o := .cells #[.int .i64 a0_0, .int .i64 a0_1] 23 (0, 0)) (by (with_reducible repeat (first | refine blk_drewN ?_ _ | refine blk_drew ?_ | refine blk_alloc ?_ _)); exact BK537.out) hb); have n1_ := Aside0.mk (below_step (by repeat (first | (with_reducible first | exact HB.out | apply below_alloc | apply pw_below_drewN | apply below_drew1 | refine below_set ?_ GE537.out) | exact HB.out)) hb); clear BK537; clear HB; have BK537 := n0_; have HB := n1_; clear n0_ n1_; (try clear hb); (try clear hb2); (try clear hk); (try clear hi)))
        go_ret
        exact ⟨by first | rfl | (simp [errW_none, errW_some] <;> rfl) | (simp [*, errW_none, errW_some] <;> rfl), by repeat (first | (with_reducible first | exact HB.out | apply below_alloc | apply pw_below_drewN | apply below_drew1 | refine below_set ?_ GE537.out) | exact HB.out)⟩
      · replace c11 := Bool.eq_false_iff.mpr c11
        subst c11
        have H1 : ((rat_Add.f kj1 a0_0 a0_1 0 1).bind fun bt543 => ((rat_Mul.f kj1 a0_0 a0_1 1 1).bind fun bt547 => ((rat_Sub.f kj1 a0_0 a0_1 a0_0 a0_1).bind fun bt551 => ((rat_Div.f kj1 a0_0 a0_1 a0_0 a0_1).bind fun bt555 => ((rat_Mul.f kj1 a0_0 a0_1 0 1).bind fun bt559 => (if (!(bt543.1 == a0_0) || (!(bt543.2.1 == a0_1))) = true then (ballcocklaw01_RatNoughts.j1 kj1 bt555.2.2 true a0_0 a0_1 1 1 bt555.1 bt555.2.1) else (if (!(bt547.1 == a0_0) || (!(bt547.2.1 == a0_1))) = true then (ballcocklaw01_RatNoughts.j1 kj1 bt555.2.2 true a0_0 a0_1 1 1 bt555.1 bt555.2.1) else (if (!(bt551.1 == 0) || (!(bt551.2.1 == 1))) = true then (ballcocklaw01_RatNoughts.j1 kj1 bt555.2.2 true a0_0 a0_1 1 1 bt555.1 bt555.2.1) else (if (!(bt559.1 == 0) || (!(bt559.2.1 == 1))) = true then (ballcocklaw01_RatNoughts.j1 kj1 bt555.2.2 true a0_0 a0_1 1 1 bt555.1 bt555.2.1) else (if bt543.2.2 = 0 then (if bt547.2.2 = 0 then (if bt551.2.2 = 0 then (ballcocklaw01_RatNoughts.j1 kj1 bt555.2.2 (bt559.2.2 != 0) a0_0 a0_1 1 1 bt555.1 bt555.2.1) else (ballcocklaw01_RatNoughts.j1 kj1 bt555.2.2 true a0_0 a0_1 1 1 bt555.1 bt555.2.1)) else (ballcocklaw01_RatNoughts.j1 kj1 bt555.2.2 true a0_0 a0_1 1 1 bt555.1 bt555.2.1)) else (ballcocklaw01_RatNoughts.j1 kj1 bt555.2.2 true a0_0 a0_1 1 1 bt555.1 bt555.2.1))))))))))) = some r := by rw [if_neg (show ¬ (false = true) by decide)] at H; exact H
        clear H
        have H := H1
        clear H1
        replace H := Option.bind_eq_some_iff.mp H
        obtain ⟨⟨t543, t544, t545⟩, A140, H⟩ := H
        replace H : ((rat_Mul.f kj1 a0_0 a0_1 1 1).bind fun bt547 => ((rat_Sub.f kj1 a0_0 a0_1 a0_0 a0_1).bind fun bt551 => ((rat_Div.f kj1 a0_0 a0_1 a0_0 a0_1).bind fun bt555 => ((rat_Mul.f kj1 a0_0 a0_1 0 1).bind fun bt559 => (if (!(t543 == a0_0) || (!(t544 == a0_1))) = true then (ballcocklaw01_RatNoughts.j1 kj1 bt555.2.2 true a0_0 a0_1 1 1 bt555.1 bt555.2.1) else (if (!(bt547.1 == a0_0) || (!(bt547.2.1 == a0_1))) = true then (ballcocklaw01_RatNoughts.j1 kj1 bt555.2.2 true a0_0 a0_1 1 1 bt555.1 bt555.2.1) else (if (!(bt551.1 == 0) || (!(bt551.2.1 == 1))) = true then (ballcocklaw01_RatNoughts.j1 kj1 bt555.2.2 true a0_0 a0_1 1 1 bt555.1 bt555.2.1) else (if (!(bt559.1 == 0) || (!(bt559.2.1 == 1))) = true then (ballcocklaw01_RatNoughts.j1 kj1 bt555.2.2 true a0_0 a0_1 1 1 bt555.1 bt555.2.1) else (if t545 = 0 then (if bt547.2.2 = 0 then (if bt551.2.2 = 0 then (ballcocklaw01_RatNoughts.j1 kj1 bt555.2.2 (bt559.2.2 != 0) a0_0 a0_1 1 1 bt555.1 bt555.2.1) else (ballcocklaw01_RatNoughts.j1 kj1 bt555.2.2 true a0_0 a0_1 1 1 bt555.1 bt555.2.1)) else (ballcocklaw01_RatNoughts.j1 kj1 bt555.2.2 true a0_0 a0_1 1 1 bt555.1 bt555.2.1)) else (ballcocklaw01_RatNoughts.j1 kj1 bt555.2.2 true a0_0 a0_1 1 1 bt555.1 bt555.2.1)))))))))) = some r := H
        have A14 := Aside0.mk A140
        clear A140
        replace H := Option.bind_eq_some_iff.mp H
        obtain ⟨⟨t547, t548, t549⟩, A150, H⟩ := H
        replace H : ((rat_Sub.f kj1 a0_0 a0_1 a0_0 a0_1).bind fun bt551 => ((rat_Div.f kj1 a0_0 a0_1 a0_0 a0_1).bind fun bt555 => ((rat_Mul.f kj1 a0_0 a0_1 0 1).bind fun bt559 => (if (!(t543 == a0_0) || (!(t544 == a0_1))) = true then (ballcocklaw01_RatNoughts.j1 kj1 bt555.2.2 true a0_0 a0_1 1 1 bt555.1 bt555.2.1) else (if (!(t547 == a0_0) || (!(t548 == a0_1))) = true then (ballcocklaw01_RatNoughts.j1 kj1 bt555.2.2 true a0_0 a0_1 1 1 bt555.1 bt555.2.1) else (if (!(bt551.1 == 0) || (!(bt551.2.1 == 1))) = true then (ballcocklaw01_RatNoughts.j1 kj1 bt555.2.2 true a0_0 a0_1 1 1 bt555.1 bt555.2.1) else (if (!(bt559.1 == 0) || (!(bt559.2.1 == 1))) = true then (ballcocklaw01_RatNoughts.j1 kj1 bt555.2.2 true a0_0 a0_1 1 1 bt555.1 bt555.2.1) else (if t545 = 0 then (if t549 = 0 then (if bt551.2.2 = 0 then (ballcocklaw01_RatNoughts.j1 kj1 bt555.2.2 (bt559.2.2 != 0) a0_0 a0_1 1 1 bt555.1 bt555.2.1) else (ballcocklaw01_RatNoughts.j1 kj1 bt555.2.2 true a0_0 a0_1 1 1 bt555.1 bt555.2.1)) else (ballcocklaw01_RatNoughts.j1 kj1 bt555.2.2 true a0_0 a0_1 1 1 bt555.1 bt555.2.1)) else (ballcocklaw01_RatNoughts.j1 kj1 bt555.2.2 true a0_0 a0_1 1 1 bt555.1 bt555.2.1))))))))) = some r := H
        have A15 := Aside0.mk A150
        clear A150
        replace H := Option.bind_eq_some_iff.mp H
        obtain ⟨⟨t551, t552, t553⟩, A160, H⟩ := H
        replace H : ((rat_Div.f kj1 a0_0 a0_1 a0_0 a0_1).bind fun bt555 => ((rat_Mul.f kj1 a0_0 a0_1 0 1).bind fun bt559 => (if (!(t543 == a0_0) || (!(t544 == a0_1))) = true then (ballcocklaw01_RatNoughts.j1 kj1 bt555.2.2 true a0_0 a0_1 1 1 bt555.1 bt555.2.1) else (if (!(t547 == a0_0) || (!(t548 == a0_1))) = true then (ballcocklaw01_RatNoughts.j1 kj1 bt555.2.2 true a0_0 a0_1 1 1 bt555.1 bt555.2.1) else (if (!(t551 == 0) || (!(t552 == 1))) = true then (ballcocklaw01_RatNoughts.j1 kj1 bt555.2.2 true a0_0 a0_1 1 1 bt555.1 bt555.2.1) else (if (!(bt559.1 == 0) || (!(bt559.2.1 == 1))) = true then (ballcocklaw01_RatNoughts.j1 kj1 bt555.2.2 true a0_0 a0_1 1 1 bt555.1 bt555.2.1) else (if t545 = 0 then (if t549 = 0 then (if t553 = 0 then (ballcocklaw01_RatNoughts.j1 kj1 bt555.2.2 (bt559.2.2 != 0) a0_0 a0_1 1 1 bt555.1 bt555.2.1) else (ballcocklaw01_RatNoughts.j1 kj1 bt555.2.2 true a0_0 a0_1 1 1 bt555.1 bt555.2.1)) else (ballcocklaw01_RatNoughts.j1 kj1 bt555.2.2 true a0_0 a0_1 1 1 bt555.1 bt555.2.1)) else (ballcocklaw01_RatNoughts.j1 kj1 bt555.2.2 true a0_0 a0_1 1 1 bt555.1 bt555.2.1)))))))) = some r := H
        have A16 := Aside0.mk A160
        clear A160
        replace H := Option.bind_eq_some_iff.mp H
        obtain ⟨⟨t555, t556, t557⟩, A170, H⟩ := H
        replace H : ((rat_Mul.f kj1 a0_0 a0_1 0 1).bind fun bt559 => (if (!(t543 == a0_0) || (!(t544 == a0_1))) = true then (ballcocklaw01_RatNoughts.j1 kj1 t557 true a0_0 a0_1 1 1 t555 t556) else (if (!(t547 == a0_0) || (!(t548 == a0_1))) = true then (ballcocklaw01_RatNoughts.j1 kj1 t557 true a0_0 a0_1 1 1 t555 t556) else (if (!(t551 == 0) || (!(t552 == 1))) = true then (ballcocklaw01_RatNoughts.j1 kj1 t557 true a0_0 a0_1 1 1 t555 t556) else (if (!(bt559.1 == 0) || (!(bt559.2.1 == 1))) = true then (ballcocklaw01_RatNoughts.j1 kj1 t557 true a0_0 a0_1 1 1 t555 t556) else (if t545 = 0 then (if t549 = 0 then (if t553 = 0 then (ballcocklaw01_RatNoughts.j1 kj1 t557 (bt559.2.2 != 0) a0_0 a0_1 1 1 t555 t556) else (ballcocklaw01_RatNoughts.j1 kj1 t557 true a0_0 a0_1 1 1 t555 t556)) else (ballcocklaw01_RatNoughts.j1 kj1 t557 true a0_0 a0_1 1 1 t555 t556)) else (ballcocklaw01_RatNoughts.j1 kj1 t557 true a0_0 a0_1 1 1 t555 t556))))))) = some r := H
        have A17 := Aside0.mk A170
        clear A170
        replace H := Option.bind_eq_some_iff.mp H
        obtain ⟨⟨t559, t560, t561⟩, A180, H⟩ := H
        replace H : (if (!(t543 == a0_0) || (!(t544 == a0_1))) = true then (ballcocklaw01_RatNoughts.j1 kj1 t557 true a0_0 a0_1 1 1 t555 t556) else (if (!(t547 == a0_0) || (!(t548 == a0_1))) = true then (ballcocklaw01_RatNoughts.j1 kj1 t557 true a0_0 a0_1 1 1 t555 t556) else (if (!(t551 == 0) || (!(t552 == 1))) = true then (ballcocklaw01_RatNoughts.j1 kj1 t557 true a0_0 a0_1 1 1 t555 t556) else (if (!(t559 == 0) || (!(t560 == 1))) = true then (ballcocklaw01_RatNoughts.j1 kj1 t557 true a0_0 a0_1 1 1 t555 t556) else (if t545 = 0 then (if t549 = 0 then (if t553 = 0 then (ballcocklaw01_RatNoughts.j1 kj1 t557 (t561 != 0) a0_0 a0_1 1 1 t555 t556) else (ballcocklaw01_RatNoughts.j1 kj1 t557 true a0_0 a0_1 1 1 t555 t556)) else (ballcocklaw01_RatNoughts.j1 kj1 t557 true a0_0 a0_1 1 1 t555 t556)) else (ballcocklaw01_RatNoughts.j1 kj1 t557 true a0_0 a0_1 1 1 t555 t556)))))) = some r := H
        have A18 := Aside0.mk A180
        clear A180
        have HC19 := Aside0.mk H
        clear H
        go_upto_region 9 with (first | ((with_reducible refine gate_dst (N := 3) rfl ?_); refine box_event ?hg (N := 3) ?hd (cs := #[.int .i64 0, .int .i64 0]) (t := 23) ?hr ?_; (case hd => rfl); (case hg => rfl); (case hr => first | (go_simp; done) | (go_simp; rfl)); intro gb541 hg w20 hbox hb; have n0_ := Aside0.mk (blk_below (g := gb537) (o := .cells #[.int .i64 a0_0, .int .i64 a0_1] 23 (0, 0)) (by (with_reducible repeat (first | refine blk_drewN ?_ _ | refine blk_drew ?_ | refine blk_alloc ?_ _)); exact BK537.out) hb); have n1_ := Aside0.mk (below_step (by repeat (first | (with_reducible first | exact HB.out | apply below_alloc | apply pw_below_drewN | apply below_drew1 | refine below_set ?_ GE537.out) | exact HB.out)) hb); have n2_ := Aside0.mk (hbox); have n3_ := Aside0.mk ((by rw [hg]; exact (below_size (by repeat (first | (with_reducible first | exact HB.out | apply below_alloc | apply pw_below_drewN | apply below_drew1 | refine below_set ?_ GE537.out) | exact HB.out))) : w.heap.size ≤ gb541)); have n4_ := Aside0.mk ((by rw [hg]; exact (below_size (by repeat (first | (with_reducible first | exact HB.out | apply below_alloc | apply pw_below_drewN | apply below_drew1 | refine below_set ?_ GE537.out) | exact HB.out))) : w.heap.size ≤ gb541)); have n5_ := Aside0.mk ((by rw [hg]; exact Nat.ne_of_lt (blk_lt (g := gb537) (o := .cells #[.int .i64 a0_0, .int .i64 a0_1] 23 (0, 0)) (by (with_reducible repeat (first | refine blk_drewN ?_ _ | refine blk_drew ?_ | refine blk_alloc ?_ _)); exact BK537.out)) : gb537 ≠ gb541)); have n6_ := Aside0.mk ((by rw [hg]; exact Nat.ne_of_gt (blk_lt (g := gb537) (o := .cells #[.int .i64 a0_0, .int .i64 a0_1] 23 (0, 0)) (by (with_reducible repeat (first | refine blk_drewN ?_ _ | refine blk_drew ?_ | refine blk_alloc ?_ _)); exact BK537.out)) : gb541 ≠ gb537)); clear BK537; clear HB; have BK537 := n0_; have HB := n1_; have BK541 := n2_; have GW541 := n3_; have GE541 := n4_; have NB537_541 := n5_; have NB541_537 := n6_; clear n0_ n1_ n2_ n3_ n4_ n5_ n6_; clear hb hbox hg) | ((with_reducible refine gate_dst (N := 4) rfl ?_); refine box_event ?hg (N := 4) ?hd (cs := #[.int .i64 0, .int .i64 0]) (t := 23) ?hr ?_; (case hd => rfl); (case hg => rfl); (case hr => first | (go_simp; done) | (go_simp; rfl)); intro gb542 hg w21 hbox hb; have n0_ := Aside0.mk (blk_below (g := gb537) (o := .cells #[.int .i64 a0_0, .int .i64 a0_1] 23 (0, 0)) (by (with_reducible repeat (first | refine blk_drewN ?_ _ | refine blk_drew ?_ | refine blk_alloc ?_ _)); exact BK537.out) hb); have n1_ := Aside0.mk (blk_below (g := gb541) (o := .cells #[.int .i64 0, .int .i64 0] 23 (0, 0)) (by (with_reducible repeat (first | refine blk_drewN ?_ _ | refine blk_drew ?_ | refine blk_alloc ?_ _)); exact BK541.out) hb); have n2_ := Aside0.mk (below_step (by repeat (first | (with_reducible first | exact HB.out | apply below_alloc | apply pw_below_drewN | apply below_drew1 | refine below_set ?_ GE537.out | refine below_set ?_ GE541.out) | exact HB.out)) hb); have n3_ := Aside0.mk (hbox); have n4_ := Aside0.mk ((by rw [hg]; exact (below_size (by repeat (first | (with_reducible first | exact HB.out | apply below_alloc | apply pw_below_drewN | apply below_drew1 | refine below_set ?_ GE537.out | refine below_set ?_ GE541.out) | exact HB.out))) : w.heap.size ≤ gb542)); have n5_ := Aside0.mk ((by rw [hg]; exact (below_size (by repeat (first | (with_reducible first | exact HB.out | apply below_alloc | apply pw_below_drewN | apply below_drew1 | refine below_set ?_ GE537.out | refine below_set ?_ GE541.out) | exact HB.out))) : w.heap.size ≤ gb542)); have n6_ := Aside0.mk ((by rw [hg]; exact Nat.ne_of_lt (blk_lt (g := gb537) (o := .cells #[.int .i64 a0_0, .int .i64 a0_1] 23 (0, 0)) (by (with_reducible repeat (first | refine blk_drewN ?_ _ | refine blk_drew ?_ | refine blk_alloc ?_ _)); exact BK537.out)) : gb537 ≠ gb542)); have n7_ := Aside0.mk ((by rw [hg]; exact Nat.ne_of_gt (blk_lt (g := gb537) (o := .cells #[.int .i64 a0_0, .int .i64 a0_1] 23 (0, 0)) (by (with_reducible repeat (first | refine blk_drewN ?_ _ | refine blk_drew ?_ | refine blk_alloc ?_ _)); exact BK537.out)) : gb542 ≠ gb537)); have n8_ := Aside0.mk ((by rw [hg]; exact Nat.ne_of_lt (blk_lt (g := gb541) (o := .cells #[.int .i64 0, .int .i64 0] 23 (0, 0)) (by (with_reducible repeat (first | refine blk_drewN ?_ _ | refine blk_drew ?_ | refine blk_alloc ?_ _)); exact BK541.out)) : gb541 ≠ gb542)); have n9_ := Aside0.mk ((by rw [hg]; exact Nat.ne_of_gt (blk_lt (g := gb541) (o := .cells #[.int .i64 0, .int .i64 0] 23 (0, 0)) (by (with_reducible repeat (first | refine blk_drewN ?_ _ | refine blk_drew ?_ | refine blk_alloc ?_ _)); exact BK541.out)) : gb542 ≠ gb541)); clear BK537; clear BK541; clear HB; have BK537 := n0_; have BK541 := n1_; have HB := n2_; have BK542 := n3_; have GW542 := n4_; have GE542 := n5_; have NB537_542 := n6_; have NB542_537 := n7_; have NB541_542 := n8_; have NB542_541 := n9_; clear n0_ n1_ n2_ n3_ n4_ n5_ n6_ n7_ n8_ n9_; clear hb hbox hg; have hnb22 := NB541_537.out; have hnc22 := NB537_541.out; have hnb23 := NB541_542.out; have hnc23 := NB542_541.out; have hcz24_0 : w21.cell? ⟨gb541, 0, none⟩ = some (.int .i64 0) := (blk_cell BK541.out 0).trans rfl; have hcz24_1 : w21.cell? ⟨gb541, 1, none⟩ = some (.int .i64 0) := (blk_cell BK541.out 1).trans rfl; have hfz24_0 := blk_frozen BK541.out 0; have hfz24_1 := blk_frozen BK541.out 1; have hnb25 := NB542_537.out; have hnc25 := NB537_542.out; have hcz26_0 : w21.cell? ⟨gb542, 0, none⟩ = some (.int .i64 0) := (blk_cell BK542.out 0).trans rfl; have hcz26_1 : w21.cell? ⟨gb542, 1, none⟩ = some (.int .i64 0) := (blk_cell BK542.out 1).trans rfl; have hfz26_0 := blk_frozen BK542.out 0; have hfz26_1 := blk_frozen BK542.out 1; have hcz27_0 : w21.cell? ⟨gb537, 0, none⟩ = some (.int .i64 a0_0) := (blk_cell BK537.out 0).trans rfl; have hcz27_1 : w21.cell? ⟨gb537, 1, none⟩ = some (.int .i64 a0_1) := (blk_cell BK537.out 1).trans rfl; have hfz27_0 := blk_frozen BK537.out 0; have hfz27_1 := blk_frozen BK537.out 1) | ((with_reducible refine gate_callee (f := 13) rfl ?_); refine goesL_ (some 28) rfl rfl Try.func13 (by kernel_rfl) rfl #[.agg #[.int .i64 a0_0, .int .i64 a0_1], .agg #[.int .i64 0, .int .i64 1]] rfl (by (try simp only [List.map_toArray, List.map_cons, List.map_nil]); first | done | rfl | (simp only [List.length_drop, List.length_take]; rfl)) ?_; (with_reducible refine (rat_Add.calls kj1 a0_0 a0_1 0 1 t543 t544 t545 _ A14.out).mono ?_); rintro e w28 ⟨rfl, hb⟩; refine ⟨_, rfl, ?_⟩; have n0_ := Aside0.mk (blk_below (g := gb537) (o := .cells #[.int .i64 a0_0, .int .i64 a0_1] 23 (0, 0)) (by (with_reducible repeat (first | refine blk_drewN ?_ _ | refine blk_drew ?_ | refine blk_alloc ?_ _)); refine blk_far ?_ NB537_542.out _; (with_reducible repeat (first | refine blk_drewN ?_ _ | refine blk_drew ?_ | refine blk_alloc ?_ _)); refine blk_far ?_ NB537_542.out _; (with_reducible repeat (first | refine blk_drewN ?_ _ | refine blk_drew ?_ | refine blk_alloc ?_ _)); refine blk_far ?_ NB537_541.out _; (with_reducible repeat (first | refine blk_drewN ?_ _ | refine blk_drew ?_ | refine blk_alloc ?_ _)); refine blk_far ?_ NB537_541.out _; (with_reducible repeat (first | refine blk_drewN ?_ _ | refine blk_drew ?_ | refine blk_alloc ?_ _)); exact BK537.out) hb); have n1_ := Aside0.mk (blk_below (g := gb541) (o := .cells #[.int .i64 0, .int .i64 1] 23 (0, 0)) (by (with_reducible repeat (first | refine blk_drewN ?_ _ | refine blk_drew ?_ | refine blk_alloc ?_ _)); refine blk_far ?_ NB541_542.out _; (with_reducible repeat (first | refine blk_drewN ?_ _ | refine blk_drew ?_ | refine blk_alloc ?_ _)); refine blk_far ?_ NB541_542.out _; (with_reducible repeat (first | refine blk_drewN ?_ _ | refine blk_drew ?_ | refine blk_alloc ?_ _)); refine blk_put (cs := #[.int .i64 0, .int .i64 0]) ?_ 1 _ rfl; (with_reducible repeat (first | refine blk_drewN ?_ _ | refine blk_drew ?_ | refine blk_alloc ?_ _)); refine blk_put (cs := #[.int .i64 0, .int .i64 0]) ?_ 0 _ rfl; (with_reducible repeat (first | refine blk_drewN ?_ _ | refine blk_drew ?_ | refine blk_alloc ?_ _)); exact BK541.out) hb); have n2_ := Aside0.mk (blk_below (g := gb542) (o := .cells #[.int .i64 1, .int .i64 1] 23 (0, 0)) (by (with_reducible repeat (first | refine blk_drewN ?_ _ | refine blk_drew ?_ | refine blk_alloc ?_ _)); refine blk_put (cs := #[.int .i64 1, .int .i64 0]) ?_ 1 _ rfl; (with_reducible repeat (first | refine blk_drewN ?_ _ | refine blk_drew ?_ | refine blk_alloc ?_ _)); refine blk_put (cs := #[.int .i64 0, .int .i64 0]) ?_ 0 _ rfl; (with_reducible repeat (first | refine blk_drewN ?_ _ | refine blk_drew ?_ | refine blk_alloc ?_ _)); refine blk_far ?_ NB542_541.out _; (with_reducible repeat (first | refine blk_drewN ?_ _ | refine blk_drew ?_ | refine blk_alloc ?_ _)); refine blk_far ?_ NB542_541.out _; (with_reducible repeat (first | refine blk_drewN ?_ _ | refine blk_drew ?_ | refine blk_alloc ?_ _)); exact BK542.out) hb); have n3_ := Aside0.mk (below_step (by repeat (first | (with_reducible first | exact HB.out | apply below_alloc | apply pw_below_drewN | apply below_drew1 | refine below_set ?_ GE537.out | refine below_set ?_ GE541.out | refine below_set ?_ GE542.out) | exact HB.out)) hb); clear BK537; clear BK541; clear BK542; clear HB; have BK537 := n0_; have BK541 := n1_; have BK542 := n2_; have HB := n3_; clear n0_ n1_ n2_ n3_; (try clear hb); (try clear hb2); (try clear hk); (try clear hi)) | ((with_reducible refine gate_dst (N := 5) rfl ?_); refine box_event ?hg (N := 5) ?hd (cs := #[.int .i64 0, .int .i64 0]) (t := 23) ?hr ?_; (case hd => rfl); (case hg => rfl); (case hr => first | (go_simp; done) | (go_simp; rfl)); intro gb546 hg w29 hbox hb; have n0_ := Aside0.mk (blk_below (g := gb537) (o := .cells #[.int .i64 a0_0, .int .i64 a0_1] 23 (0, 0)) (by (with_reducible repeat (first | refine blk_drewN ?_ _ | refine blk_drew ?_ | refine blk_alloc ?_ _)); exact BK537.out) hb); have n1_ := Aside0.mk (blk_below (g := gb541) (o := .cells #[.int .i64 0, .int .i64 1] 23 (0, 0)) (by (with_reducible repeat (first | refine blk_drewN ?_ _ | refine blk_drew ?_ | refine blk_alloc ?_ _)); exact BK541.out) hb); have n2_ := Aside0.mk (blk_below (g := gb542) (o := .cells #[.int .i64 1, .int .i64 1] 23 (0, 0)) (by (with_reducible repeat (first | refine blk_drewN ?_ _ | refine blk_drew ?_ | refine blk_alloc ?_ _)); exact BK542.out) hb); have n3_ := Aside0.mk (below_step (by repeat (first | (with_reducible first | exact HB.out | apply below_alloc | apply pw_below_drewN | apply below_drew1 | refine below_set ?_ GE537.out | refine below_set ?_ GE541.out | refine below_set ?_ GE542.out) | exact HB.out)) hb); have n4_ := Aside0.mk (hbox); have n5_ := Aside0.mk ((by rw [hg]; exact (below_size (by repeat (first | (with_reducible first | exact HB.out | apply below_alloc | apply pw_below_drewN | apply below_drew1 | refine below_set ?_ GE537.out | refine below_set ?_ GE541.out | refine below_set ?_ GE542.out) | exact HB.out))) : w.heap.size ≤ gb546)); have n6_ := Aside0.mk ((by rw [hg]; exact (below_size (by repeat (first | (with_reducible first | exact HB.out | apply below_alloc | apply pw_below_drewN | apply below_drew1 | refine below_set ?_ GE537.out | refine below_set ?_ GE541.out | refine below_set ?_ GE542.out) | exact HB.out))) : w.heap.size ≤ gb546)); have n7_ := Aside0.mk ((by rw [hg]; exact Nat.ne_of_lt (blk_lt (g := gb537) (o := .cells #[.int .i64 a0_0, .int .i64 a0_1] 23 (0, 0)) (by (with_reducible repeat (first | refine blk_drewN ?_ _ | refine blk_drew ?_ | refine blk_alloc ?_ _)); exact BK537.out)) : gb537 ≠ gb546)); have n8_ := Aside0.mk ((by rw [hg]; exact Nat.ne_of_gt (blk_lt (g := gb537) (o := .cells #[.int .i64 a0_0, .int .i64 a0_1] 23 (0, 0)) (by (with_reducible repeat (first | refine blk_drewN ?_ _ | refine blk_drew ?_ | refine blk_alloc ?_ _)); exact BK537.out)) : gb546 ≠ gb537)); have n9_ := Aside0.mk ((by rw [hg]; exact Nat.ne_of_lt (blk_lt (g := gb541) (o := .cells #[.int .i64 0, .int .i64 1] 23 (0, 0)) (by (with_reducible repeat (first | refine blk_drewN ?_ _ | refine blk_drew ?_ | refine blk_alloc ?_ _)); exact BK541.out)) : gb541 ≠ gb546)); have n10_ := Aside0.mk ((by rw [hg]; exact Nat.ne_of_gt (blk_lt (g := gb541) (o := .cells #[.int .i64 0, .int .i64 1] 23 (0, 0)) (by (with_reducible repeat (first | refine blk_drewN ?_ _ | refine blk_drew ?_ | refine blk_alloc ?_ _)); exact BK541.out)) : gb546 ≠ gb541)); have n11_ := Aside0.mk ((by rw [hg]; exact Nat.ne_of_lt (blk_lt (g := gb542) (o := .cells #[.int .i64 1, .int .i64 1] 23 (0, 0)) (by (with_reducible repeat (first | refine blk_drewN ?_ _ | refine blk_drew ?_ | refine blk_alloc ?_ _)); exact BK542.out)) : gb542 ≠ gb546)); have n12_ := Aside0.mk ((by rw [hg]; exact Nat.ne_of_gt (blk_lt (g := gb542) (o := .cells #[.int .i64 1, .int .i64 1] 23 (0, 0)) (by (with_reducible repeat (first | refine blk_drewN ?_ _ | refine blk_drew ?_ | refine blk_alloc ?_ _)); exact BK542.out)) : gb546 ≠ gb542)); clear BK537; clear BK541; clear BK542; clear HB; have BK537 := n0_; have BK541 := n1_; have BK542 := n2_; have HB := n3_; have BK546 := n4_; have GW546 := n5_; have GE546 := n6_; have NB537_546 := n7_; have NB546_537 := n8_; have NB541_546 := n9_; have NB546_541 := n10_; have NB542_546 := n11_; have NB546_542 := n12_; clear n0_ n1_ n2_ n3_ n4_ n5_ n6_ n7_ n8_ n9_ n10_ n11_ n12_; clear hb hbox hg; have hnb30 := NB546_537.out; have hnc30 := NB537_546.out; have hnb31 := NB546_541.out; have hnc31 := NB541_546.out; have hnb32 := NB546_542.out; have hnc32 := NB542_546.out; have hcz33_0 : w29.cell? ⟨gb546, 0, none⟩ = some (.int .i64 0) := (blk_cell BK546.out 0).trans rfl; have hcz33_1 : w29.cell? ⟨gb546, 1, none⟩ = some (.int .i64 0) := (blk_cell BK546.out 1).trans rfl; have hfz33_0 := blk_frozen BK546.out 0; have hfz33_1 := blk_frozen BK546.out 1; have hcz34_0 : w29.cell? ⟨gb537, 0, none⟩ = some (.int .i64 a0_0) := (blk_cell BK537.out 0).trans rfl; have hcz34_1 : w29.cell? ⟨gb537, 1, none⟩ = some (.int .i64 a0_1) := (blk_cell BK537.out 1).trans rfl; have hfz34_0 := blk_frozen BK537.out 0; have hfz34_1 := blk_frozen BK537.out 1; have hcz35_0 : w29.cell? ⟨gb542, 0, none⟩ = some (.int .i64 1) := (blk_cell BK542.out 0).trans rfl; have hcz35_1 : w29.cell? ⟨gb542, 1, none⟩ = some (.int .i64 1) := (blk_cell BK542.out 1).trans rfl; have hfz35_0 := blk_frozen BK542.out 0; have hfz35_1 := blk_frozen BK542.out 1) | ((with_reducible refine gate_callee (f := 14) rfl ?_); refine goesL_ (some 34) rfl rfl Try.func14 (by kernel_rfl) rfl #[.agg #[.int .i64 a0_0, .int .i64 a0_1], .agg #[.int .i64 1, .int .i64 1]] rfl (by (try simp only [List.map_toArray, List.map_cons, List.map_nil]); first | done | rfl | (simp only [List.length_drop, List.length_take]; rfl)) ?_; (with_reducible refine (rat_Mul.calls kj1 a0_0 a0_1 1 1 t547 t548 t549 _ A15.out).mono ?_); rintro e w36 ⟨rfl, hb⟩; refine ⟨_, rfl, ?_⟩; have n0_ := Aside0.mk (blk_below (g := gb537) (o := .cells #[.int .i64 a0_0, .int .i64 a0_1] 23 (0, 0)) (by (with_reducible repeat (first | refine blk_drewN ?_ _ | refine blk_drew ?_ | refine blk_alloc ?_ _)); refine blk_far ?_ NB537_546.out _; (with_reducible repeat (first | refine blk_drewN ?_ _ | refine blk_drew ?_ | refine blk_alloc ?_ _)); refine blk_far ?_ NB537_546.out _; (with_reducible repeat (first | refine blk_drewN ?_ _ | refine blk_drew ?_ | refine blk_alloc ?_ _)); exact BK537.out) hb); have n1_ := Aside0.mk (blk_below (g := gb541) (o := .cells #[.int .i64 0, .int .i64 1] 23 (0, 0)) (by (with_reducible repeat (first | refine blk_drewN ?_ _ | refine blk_drew ?_ | refine blk_alloc ?_ _)); refine blk_far ?_ NB541_546.out _; (with_reducible repeat (first | refine blk_drewN ?_ _ | refine blk_drew ?_ | refine blk_alloc ?_ _)); refine blk_far ?_ NB541_546.out _; (with_reducible repeat (first | refine blk_drewN ?_ _ | refine blk_drew ?_ | refine blk_alloc ?_ _)); exact BK541.out) hb); have n2_ := Aside0.mk (blk_below (g := gb542) (o := .cells #[.int .i64 1, .int .i64 1] 23 (0, 0)) (by (with_reducible repeat (first | refine blk_drewN ?_ _ | refine blk_drew ?_ | refine blk_alloc ?_ _)); refine blk_far ?_ NB542_546.out _; (with_reducible repeat (first | refine blk_drewN ?_ _ | refine blk_drew ?_ | refine blk_alloc ?_ _)); refine blk_far ?_ NB542_546.out _; (with_reducible repeat (first | refine blk_drewN ?_ _ | refine blk_drew ?_ | refine blk_alloc ?_ _)); exact BK542.out) hb); have n3_ := Aside0.mk (blk_below (g := gb546) (o := .cells #[.int .i64 t543, .int .i64 t544] 23 (0, 0)) (by (with_reducible repeat (first | refine blk_drewN ?_ _ | refine blk_drew ?_ | refine blk_alloc ?_ _)); refine blk_put (cs := #[.int .i64 t543, .int .i64 0]) ?_ 1 _ rfl; (with_reducible repeat (first | refine blk_drewN ?_ _ | refine blk_drew ?_ | refine blk_alloc ?_ _)); refine blk_put (cs := #[.int .i64 0, .int .i64 0]) ?_ 0 _ rfl; (with_reducible repeat (first | refine blk_drewN ?_ _ | refine blk_drew ?_ | refine blk_alloc ?_ _)); exact BK546.out) hb); have n4_ := Aside0.mk (below_step (by repeat (first | (with_reducible first | exact HB.out | apply below_alloc | apply pw_below_drewN | apply below_drew1 | refine below_set ?_ GE537.out | refine below_set ?_ GE541.out | refine below_set ?_ GE542.out | refine below_set ?_ GE546.out) | exact HB.out)) hb); clear BK537; clear BK541; clear BK542; clear BK546; clear HB; have BK537 := n0_; have BK541 := n1_; have BK542 := n2_; have BK546 := n3_; have HB := n4_; clear n0_ n1_ n2_ n3_ n4_; (try clear hb); (try clear hb2); (try clear hk); (try clear hi)) | ((with_reducible refine gate_dst (N := 7) rfl ?_); refine box_event ?hg (N := 7) ?hd (cs := #[.int .i64 0, .int .i64 0]) (t := 23) ?hr ?_; (case hd => rfl); (case hg => rfl); (case hr => first | (go_simp; done) | (go_simp; rfl)); intro gb550 hg w37 hbox hb; have n0_ := Aside0.mk (blk_below (g := gb537) (o := .cells #[.int .i64 a0_0, .int .i64 a0_1] 23 (0, 0)) (by (with_reducible repeat (first | refine blk_drewN ?_ _ | refine blk_drew ?_ | refine blk_alloc ?_ _)); exact BK537.out) hb); have n1_ := Aside0.mk (blk_below (g := gb541) (o := .cells #[.int .i64 0, .int .i64 1] 23 (0, 0)) (by (with_reducible repeat (first | refine blk_drewN ?_ _ | refine blk_drew ?_ | refine blk_alloc ?_ _)); exact BK541.out) hb); have n2_ := Aside0.mk (blk_below (g := gb542) (o := .cells #[.int .i64 1, .int .i64 1] 23 (0, 0)) (by (with_reducible repeat (first | refine blk_drewN ?_ _ | refine blk_drew ?_ | refine blk_alloc ?_ _)); exact BK542.out) hb); have n3_ := Aside0.mk (blk_below (g := gb546) (o := .cells #[.int .i64 t543, .int .i64 t544] 23 (0, 0)) (by (with_reducible repeat (first | refine blk_drewN ?_ _ | refine blk_drew ?_ | refine blk_alloc ?_ _)); exact BK546.out) hb); have n4_ := Aside0.mk (below_step (by repeat (first | (with_reducible first | exact HB.out | apply below_alloc | apply pw_below_drewN | apply below_drew1 | refine below_set ?_ GE537.out | refine below_set ?_ GE541.out | refine below_set ?_ GE542.out | refine below_set ?_ GE546.out) | exact HB.out)) hb); have n5_ := Aside0.mk (hbox); have n6_ := Aside0.mk ((by rw [hg]; exact (below_size (by repeat (first | (with_reducible first | exact HB.out | apply below_alloc | apply pw_below_drewN | apply below_drew1 | refine below_set ?_ GE537.out | refine below_set ?_ GE541.out | refine below_set ?_ GE542.out | refine below_set ?_ GE546.out) | exact HB.out))) : w.heap.size ≤ gb550)); have n7_ := Aside0.mk ((by rw [hg]; exact (below_size (by repeat (first | (with_reducible first | exact HB.out | apply below_alloc | apply pw_below_drewN | apply below_drew1 | refine below_set ?_ GE537.out | refine below_set ?_ GE541.out | refine below_set ?_ GE542.out | refine below_set ?_ GE546.out) | exact HB.out))) : w.heap.size ≤ gb550)); have n8_ := Aside0.mk ((by rw [hg]; exact Nat.ne_of_lt (blk_lt (g := gb537) (o := .cells #[.int .i64 a0_0, .int .i64 a0_1] 23 (0, 0)) (by (with_reducible repeat (first | refine blk_drewN ?_ _ | refine blk_drew ?_ | refine blk_alloc ?_ _)); exact BK537.out)) : gb537 ≠ gb550)); have n9_ := Aside0.mk ((by rw [hg]; exact Nat.ne_of_gt (blk_lt (g := gb537) (o := .cells #[.int .i64 a0_0, .int .i64 a0_1] 23 (0, 0)) (by (with_reducible repeat (first | refine blk_drewN ?_ _ | refine blk_drew ?_ | refine blk_alloc ?_ _)); exact BK537.out)) : gb550 ≠ gb537)); have n10_ := Aside0.mk ((by rw [hg]; exact Nat.ne_of_lt (blk_lt (g := gb541) (o := .cells #[.int .i64 0, .int .i64 1] 23 (0, 0)) (by (with_reducible repeat (first | refine blk_drewN ?_ _ | refine blk_drew ?_ | refine blk_alloc ?_ _)); exact BK541.out)) : gb541 ≠ gb550)); have n11_ := Aside0.mk ((by rw [hg]; exact Nat.ne_of_gt (blk_lt (g := gb541) (o := .cells #[.int .i64 0, .int .i64 1] 23 (0, 0)) (by (with_reducible repeat (first | refine blk_drewN ?_ _ | refine blk_drew ?_ | refine blk_alloc ?_ _)); exact BK541.out)) : gb550 ≠ gb541)); have n12_ := Aside0.mk ((by rw [hg]; exact Nat.ne_of_lt (blk_lt (g := gb542) (o := .cells #[.int .i64 1, .int .i64 1] 23 (0, 0)) (by (with_reducible repeat (first | refine blk_drewN ?_ _ | refine blk_drew ?_ | refine blk_alloc ?_ _)); exact BK542.out)) : gb542 ≠ gb550)); have n13_ := Aside0.mk ((by rw [hg]; exact Nat.ne_of_gt (blk_lt (g := gb542) (o := .cells #[.int .i64 1, .int .i64 1] 23 (0, 0)) (by (with_reducible repeat (first | refine blk_drewN ?_ _ | refine blk_drew ?_ | refine blk_alloc ?_ _)); exact BK542.out)) : gb550 ≠ gb542)); have n14_ := Aside0.mk ((by rw [hg]; exact Nat.ne_of_lt (blk_lt (g := gb546) (o := .cells #[.int .i64 t543, .int .i64 t544] 23 (0, 0)) (by (with_reducible repeat (first | refine blk_drewN ?_ _ | refine blk_drew ?_ | refine blk_alloc ?_ _)); exact BK546.out)) : gb546 ≠ gb550)); have n15_ := Aside0.mk ((by rw [hg]; exact Nat.ne_of_gt (blk_lt (g := gb546) (o := .cells #[.int .i64 t543, .int .i64 t544] 23 (0, 0)) (by (with_reducible repeat (first | refine blk_drewN ?_ _ | refine blk_drew ?_ | refine blk_alloc ?_ _)); exact BK546.out)) : gb550 ≠ gb546)); clear BK537; clear BK541; clear BK542; clear BK546; clear HB; have BK537 := n0_; have BK541 := n1_; have BK542 := n2_; have BK546 := n3_; have HB := n4_; have BK550 := n5_; have GW550 := n6_; have GE550 := n7_; have NB537_550 := n8_; have NB550_537 := n9_; have NB541_550 := n10_; have NB550_541 := n11_; have NB542_550 := n12_; have NB550_542 := n13_; have NB546_550 := n14_; have NB550_546 := n15_; clear n0_ n1_ n2_ n3_ n4_ n5_ n6_ n7_ n8_ n9_ n10_ n11_ n12_ n13_ n14_ n15_; clear hb hbox hg; have hnb38 := NB550_537.out; have hnc38 := NB537_550.out; have hnb39 := NB550_541.out; have hnc39 := NB541_550.out; have hnb40 := NB550_542.out; have hnc40 := NB542_550.out; have hnb41 := NB550_546.out; have hnc41 := NB546_550.out; have hcz42_0 : w37.cell? ⟨gb550, 0, none⟩ = some (.int .i64 0) := (blk_cell BK550.out 0).trans rfl; have hcz42_1 : w37.cell? ⟨gb550, 1, none⟩ = some (.int .i64 0) := (blk_cell BK550.out 1).trans rfl; have hfz42_0 := blk_frozen BK550.out 0; have hfz42_1 := blk_frozen BK550.out 1; have hcz43_0 : w37.cell? ⟨gb537, 0, none⟩ = some (.int .i64 a0_0) := (blk_cell BK537.out 0).trans rfl; have hcz43_1 : w37.cell? ⟨gb537, 1, none⟩ = some (.int .i64 a0_1) := (blk_cell BK537.out 1).trans rfl; have hfz43_0 := blk_frozen BK537.out 0; have hfz43_1 := blk_frozen BK537.out 1) | ((with_reducible refine gate_callee (f := 18) rfl ?_); refine goesL_ (some 40) rfl rfl Try.func18 (by kernel_rfl) rfl #[.agg #[.int .i64 a0_0, .int .i64 a0_1], .agg #[.int .i64 a0_0, .int .i64 a0_1]] rfl (by (try simp only [List.map_toArray, List.map_cons, List.map_nil]); first | done | rfl | (simp only [List.length_drop, List.length_take]; rfl)) ?_; (with_reducible refine (rat_Sub.calls kj1 a0_0 a0_1 a0_0 a0_1 t551 t552 t553 _ A16.out).mono ?_); rintro e w44 ⟨rfl, hb⟩; refine ⟨_, rfl, ?_⟩; have n0_ := Aside0.mk (blk_below (g := gb537) (o := .cells #[.int .i64 a0_0, .int .i64 a0_1] 23 (0, 0)) (by (with_reducible repeat (first | refine blk_drewN ?_ _ | refine blk_drew ?_ | refine blk_alloc ?_ _)); refine blk_far ?_ NB537_550.out _; (with_reducible repeat (first | refine blk_drewN ?_ _ | refine blk_drew ?_ | refine blk_alloc ?_ _)); refine blk_far ?_ NB537_550.out _; (with_reducible repeat (first | refine blk_drewN ?_ _ | refine blk_drew ?_ | refine blk_alloc ?_ _)); exact BK537.out) hb); have n1_ := Aside0.mk (blk_below (g := gb541) (o := .cells #[.int .i64 0, .int .i64 1] 23 (0, 0)) (by (with_reducible repeat (first | refine blk_drewN ?_ _ | refine blk_drew ?_ | refine blk_alloc ?_ _)); refine blk_far ?_ NB541_550.out _; (with_reducible repeat (first | refine blk_drewN ?_ _ | refine blk_drew ?_ | refine blk_alloc ?_ _)); refine blk_far ?_ NB541_550.out _; (with_reducible repeat (first | refine blk_drewN ?_ _ | refine blk_drew ?_ | refine blk_alloc ?_ _)); exact BK541.out) hb); have n2_ := Aside0.mk (blk_below (g := gb542) (o := .cells #[.int .i64 1, .int .i64 1] 23 (0, 0)) (by (with_reducible repeat (first | refine blk_drewN ?_ _ | refine blk_drew ?_ | refine blk_alloc ?_ _)); refine blk_far ?_ NB542_550.out _; (with_reducible repeat (first | refine blk_drewN ?_ _ | refine blk_drew ?_ | refine blk_alloc ?_ _)); refine blk_far ?_ NB542_550.out _; (with_reducible repeat (first | refine blk_drewN ?_ _ | refine blk_drew ?_ | refine blk_alloc ?_ _)); exact BK542.out) hb); have n3_ := Aside0.mk (blk_below (g := gb546) (o := .cells #[.int .i64 t543, .int .i64 t544] 23 (0, 0)) (by (with_reducible repeat (first | refine blk_drewN ?_ _ | refine blk_drew ?_ | refine blk_alloc ?_ _)); refine blk_far ?_ NB546_550.out _; (with_reducible repeat (first | refine blk_drewN ?_ _ | refine blk_drew ?_ | refine blk_alloc ?_ _)); refine blk_far ?_ NB546_550.out _; (with_reducible repeat (first | refine blk_drewN ?_ _ | refine blk_drew ?_ | refine blk_alloc ?_ _)); exact BK546.out) hb); have n4_ := Aside0.mk (blk_below (g := gb550) (o := .cells #[.int .i64 t547, .int .i64 t548] 23 (0, 0)) (by (with_reducible repeat (first | refine blk_drewN ?_ _ | refine blk_drew ?_ | refine blk_alloc ?_ _)); refine blk_put (cs := #[.int .i64 t547, .int .i64 0]) ?_ 1 _ rfl; (with_reducible repeat (first | refine blk_drewN ?_ _ | refine blk_drew ?_ | refine blk_alloc ?_ _)); refine blk_put (cs := #[.int .i64 0, .int .i64 0]) ?_ 0 _ rfl; (with_reducible repeat (first | refine blk_drewN ?_ _ | refine blk_drew ?_ | refine blk_alloc ?_ _)); exact BK550.out) hb); have n5_ := Aside0.mk (below_step (by repeat (first | (with_reducible first | exact HB.out | apply below_alloc | apply pw_below_drewN | apply below_drew1 | refine below_set ?_ GE537.out | refine below_set ?_ GE541.out | refine below_set ?_ GE542.out | refine below_set ?_ GE546.out | refine below_set ?_ GE550.out) | exact HB.out)) hb); clear BK537; clear BK541; clear BK542; clear BK546; clear BK550; clear HB; have BK537 := n0_; have BK541 := n1_; have BK542 := n2_; have BK546 := n3_; have BK550 := n4_; have HB := n5_; clear n0_ n1_ n2_ n3_ n4_ n5_; (try clear hb); (try clear hb2); (try clear hk); (try clear hi)) | ((with_reducible refine gate_dst (N := 9) rfl ?_); refine box_event ?hg (N := 9) ?hd (cs := #[.int .i64 0, .int .i64 0]) (t := 23) ?hr ?_; (case hd => rfl); (case hg => rfl); (case hr => first | (go_simp; done) | (go_simp; rfl)); intro gb554 hg w45 hbox hb; have n0_ := Aside0.mk (blk_below (g := gb537) (o := .cells #[.int .i64 a0_0, .int .i64 a0_1] 23 (0, 0)) (by (with_reducible repeat (first | refine blk_drewN ?_ _ | refine blk_drew ?_ | refine blk_alloc ?_ _)); exact BK537.out) hb); have n1_ := Aside0.mk (blk_below (g := gb541) (o := .cells #[.int .i64 0, .int .i64 1] 23 (0, 0)) (by (with_reducible repeat (first | refine blk_drewN ?_ _ | refine blk_drew ?_ | refine blk_alloc ?_ _)); exact BK541.out) hb); have n2_ := Aside0.mk (blk_below (g := gb542) (o := .cells #[.int .i64 1, .int .i64 1] 23 (0, 0)) (by (with_reducible repeat (first | refine blk_drewN ?_ _ | refine blk_drew ?_ | refine blk_alloc ?_ _)); exact BK542.out) hb); have n3_ := Aside0.mk (blk_below (g := gb546) (o := .cells #[.int .i64 t543, .int .i64 t544] 23 (0, 0)) (by (with_reducible repeat (first | refine blk_drewN ?_ _ | refine blk_drew ?_ | refine blk_alloc ?_ _)); exact BK546.out) hb); have n4_ := Aside0.mk (blk_below (g := gb550) (o := .cells #[.int .i64 t547, .int .i64 t548] 23 (0, 0)) (by (with_reducible repeat (first | refine blk_drewN ?_ _ | refine blk_drew ?_ | refine blk_alloc ?_ _)); exact BK550.out) hb); have n5_ := Aside0.mk (below_step (by repeat (first | (with_reducible first | exact HB.out | apply below_alloc | apply pw_below_drewN | apply below_drew1 | refine below_set ?_ GE537.out | refine below_set ?_ GE541.out | refine below_set ?_ GE542.out | refine below_set ?_ GE546.out | refine below_set ?_ GE550.out) | exact HB.out)) hb); have n6_ := Aside0.mk (hbox); have n7_ := Aside0.mk ((by rw [hg]; exact (below_size (by repeat (first | (with_reducible first | exact HB.out | apply below_alloc | apply pw_below_drewN | apply below_drew1 | refine below_set ?_ GE537.out | refine below_set ?_ GE541.out | refine below_set ?_ GE542.out | refine below_set ?_ GE546.out | refine below_set ?_ GE550.out) | exact HB.out))) : w.heap.size ≤ gb554)); have n8_ := Aside0.mk ((by rw [hg]; exact (below_size (by repeat (first | (with_reducible first | exact HB.out | apply below_alloc | apply pw_below_drewN | apply below_drew1 | refine below_set ?_ GE537.out | refine below_set ?_ GE541.out | refine below_set ?_ GE542.out | refine below_set ?_ GE546.out | refine below_set ?_ GE550.out) | exact HB.out))) : w.heap.size ≤ gb554)); have n9_ := Aside0.mk ((by rw [hg]; exact Nat.ne_of_lt (blk_lt (g := gb537) (o := .cells #[.int .i64 a0_0, .int .i64 a0_1] 23 (0, 0)) (by (with_reducible repeat (first | refine blk_drewN ?_ _ | refine blk_drew ?_ | refine blk_alloc ?_ _)); exact BK537.out)) : gb537 ≠ gb554)); have n10_ := Aside0.mk ((by rw [hg]; exact Nat.ne_of_gt (blk_lt (g := gb537) (o := .cells #[.int .i64 a0_0, .int .i64 a0_1] 23 (0, 0)) (by (with_reducible repeat (first | refine blk_drewN ?_ _ | refine blk_drew ?_ | refine blk_alloc ?_ _)); exact BK537.out)) : gb554 ≠ gb537)); have n11_ := Aside0.mk ((by rw [hg]; exact Nat.ne_of_lt (blk_lt (g := gb541) (o := .cells #[.int .i64 0, .int .i64 1] 23 (0, 0)) (by (with_reducible repeat (first | refine blk_drewN ?_ _ | refine blk_drew ?_ | refine blk_alloc ?_ _)); exact BK541.out)) : gb541 ≠ gb554)); have n12_ := Aside0.mk ((by rw [hg]; exact Nat.ne_of_gt (blk_lt (g := gb541) (o := .cells #[.int .i64 0, .int .i64 1] 23 (0, 0)) (by (with_reducible repeat (first | refine blk_drewN ?_ _ | refine blk_drew ?_ | refine blk_alloc ?_ _)); exact BK541.out)) : gb554 ≠ gb541)); have n13_ := Aside0.mk ((by rw [hg]; exact Nat.ne_of_lt (blk_lt (g := gb542) (o := .cells #[.int .i64 1, .int .i64 1] 23 (0, 0)) (by (with_reducible repeat (first | refine blk_drewN ?_ _ | refine blk_drew ?_ | refine blk_alloc ?_ _)); exact BK542.out)) : gb542 ≠ gb554)); have n14_ := Aside0.mk ((by rw [hg]; exact Nat.ne_of_gt (blk_lt (g := gb542) (o := .cells #[.int .i64 1, .int .i64 1] 23 (0, 0)) (by (with_reducible repeat (first | refine blk_drewN ?_ _ | refine blk_drew ?_ | refine blk_alloc ?_ _)); exact BK542.out)) : gb554 ≠ gb542)); have n15_ := Aside0.mk ((by rw [hg]; exact Nat.ne_of_lt (blk_lt (g := gb546) (o := .cells #[.int .i64 t543, .int .i64 t544] 23 (0, 0)) (by (with_reducible repeat (first | refine blk_drewN ?_ _ | refine blk_drew ?_ | refine blk_alloc ?_ _)); exact BK546.out)) : gb546 ≠ gb554)); have n16_ := Aside0.mk ((by rw [hg]; exact Nat.ne_of_gt (blk_lt (g := gb546) (o := .cells #[.int .i64 t543, .int .i64 t544] 23 (0, 0)) (by (with_reducible repeat (first | refine blk_drewN ?_ _ | refine blk_drew ?_ | refine blk_alloc ?_ _)); exact BK546.out)) : gb554 ≠ gb546)); have n17_ := Aside0.mk ((by rw [hg]; exact Nat.ne_of_lt (blk_lt (g := gb550) (o := .cells #[.int .i64 t547, .int .i64 t548] 23 (0, 0)) (by (with_reducible repeat (first | refine blk_drewN ?_ _ | refine blk_drew ?_ | refine blk_alloc ?_ _)); exact BK550.out)) : gb550 ≠ gb554)); have n18_ := Aside0.mk ((by rw [hg]; exact Nat.ne_of_gt (blk_lt (g := gb550) (o := .cells #[.int .i64 t547, .int .i64 t548] 23 (0, 0)) (by (with_reducible repeat (first | refine blk_drewN ?_ _ | refine blk_drew ?_ | refine blk_alloc ?_ _)); exact BK550.out)) : gb554 ≠ gb550)); clear BK537; clear BK541; clear BK542; clear BK546; clear BK550; clear HB; have BK537 := n0_; have BK541 := n1_; have BK542 := n2_; have BK546 := n3_; have BK550 := n4_; have HB := n5_; have BK554 := n6_; have GW554 := n7_; have GE554 := n8_; have NB537_554 := n9_; have NB554_537 := n10_; have NB541_554 := n11_; have NB554_541 := n12_; have NB542_554 := n13_; have NB554_542 := n14_; have NB546_554 := n15_; have NB554_546 := n16_; have NB550_554 := n17_; have NB554_550 := n18_; clear n0_ n1_ n2_ n3_ n4_ n5_ n6_ n7_ n8_ n9_ n10_ n11_ n12_ n13_ n14_ n15_ n16_ n17_ n18_; clear hb hbox hg; have hnb46 := NB554_537.out; have hnc46 := NB537_554.out; have hnb47 := NB554_541.out; have hnc47 := NB541_554.out; have hnb48 := NB554_542.out; have hnc48 := NB542_554.out; have hnb49 := NB554_546.out; have hnc49 := NB546_554.out; have hnb50 := NB554_550.out; have hnc50 := NB550_554.out; have hcz51_0 : w45.cell? ⟨gb554, 0, none⟩ = some (.int .i64 0) := (blk_cell BK554.out 0).trans rfl; have hcz51_1 : w45.cell? ⟨gb554, 1, none⟩ = some (.int .i64 0) := (blk_cell BK554.out 1).trans rfl; have hfz51_0 := blk_frozen BK554.out 0; have hfz51_1 := blk_frozen BK554.out 1; have hcz52_0 : w45.cell? ⟨gb537, 0, none⟩ = some (.int .i64 a0_0) := (blk_cell BK537.out 0).trans rfl; have hcz52_1 : w45.cell? ⟨gb537, 1, none⟩ = some (.int .i64 a0_1) := (blk_cell BK537.out 1).trans rfl; have hfz52_0 := blk_frozen BK537.out 0; have hfz52_1 := blk_frozen BK537.out 1) | ((with_reducible refine gate_callee (f := 19) rfl ?_); refine goesL_ (some 46) rfl rfl Try.func19 (by kernel_rfl) rfl #[.agg #[.int .i64 a0_0, .int .i64 a0_1], .agg #[.int .i64 a0_0, .int .i64 a0_1]] rfl (by (try simp only [List.map_toArray, List.map_cons, List.map_nil]); first | done | rfl | (simp only [List.length_drop, List.length_take]; rfl)) ?_; (with_reducible refine (rat_Div.calls kj1 a0_0 a0_1 a0_0 a0_1 t555 t556 t557 _ A17.out).mono ?_); rintro e w53 ⟨rfl, hb⟩; refine ⟨_, rfl, ?_⟩; have n0_ := Aside0.mk (blk_below (g := gb537) (o := .cells #[.int .i64 a0_0, .int .i64 a0_1] 23 (0, 0)) (by (with_reducible repeat (first | refine blk_drewN ?_ _ | refine blk_drew ?_ | refine blk_alloc ?_ _)); refine blk_far ?_ NB537_554.out _; (with_reducible repeat (first | refine blk_drewN ?_ _ | refine blk_drew ?_ | refine blk_alloc ?_ _)); refine blk_far ?_ NB537_554.out _; (with_reducible repeat (first | refine blk_drewN ?_ _ | refine blk_drew ?_ | refine blk_alloc ?_ _)); exact BK537.out) hb); have n1_ := Aside0.mk (blk_below (g := gb541) (o := .cells #[.int .i64 0, .int .i64 1] 23 (0, 0)) (by (with_reducible repeat (first | refine blk_drewN ?_ _ | refine blk_drew ?_ | refine blk_alloc ?_ _)); refine blk_far ?_ NB541_554.out _; (with_reducible repeat (first | refine blk_drewN ?_ _ | refine blk_drew ?_ | refine blk_alloc ?_ _)); refine blk_far ?_ NB541_554.out _; (with_reducible repeat (first | refine blk_drewN ?_ _ | refine blk_drew ?_ | refine blk_alloc ?_ _)); exact BK541.out) hb); have n2_ := Aside0.mk (blk_below (g := gb542) (o := .cells #[.int .i64 1, .int .i64 1] 23 (0, 0)) (by (with_reducible repeat (first | refine blk_drewN ?_ _ | refine blk_drew ?_ | refine blk_alloc ?_ _)); refine blk_far ?_ NB542_554.out _; (with_reducible repeat (first | refine blk_drewN ?_ _ | refine blk_drew ?_ | refine blk_alloc ?_ _)); refine blk_far ?_ NB542_554.out _; (with_reducible repeat (first | refine blk_drewN ?_ _ | refine blk_drew ?_ | refine blk_alloc ?_ _)); exact BK542.out) hb); have n3_ := Aside0.mk (blk_below (g := gb546) (o := .cells #[.int .i64 t543, .int .i64 t544] 23 (0, 0)) (by (with_reducible repeat (first | refine blk_drewN ?_ _ | refine blk_drew ?_ | refine blk_alloc ?_ _)); refine blk_far ?_ NB546_554.out _; (with_reducible repeat (first | refine blk_drewN ?_ _ | refine blk_drew ?_ | refine blk_alloc ?_ _)); refine blk_far ?_ NB546_554.out _; (with_reducible repeat (first | refine blk_drewN ?_ _ | refine blk_drew ?_ | refine blk_alloc ?_ _)); exact BK546.out) hb); have n4_ := Aside0.mk (blk_below (g := gb550) (o := .cells #[.int .i64 t547, .int .i64 t548] 23 (0, 0)) (by (with_reducible repeat (first | refine blk_drewN ?_ _ | refine blk_drew ?_ | refine blk_alloc ?_ _)); refine blk_far ?_ NB550_554.out _; (with_reducible repeat (first | refine blk_drewN ?_ _ | refine blk_drew ?_ | refine blk_alloc ?_ _)); refine blk_far ?_ NB550_554.out _; (with_reducible repeat (first | refine blk_drewN ?_ _ | refine blk_drew ?_ | refine blk_alloc ?_ _)); exact BK550.out) hb); have n5_ := Aside0.mk (blk_below (g := gb554) (o := .cells #[.int .i64 t551, .int .i64 t552] 23 (0, 0)) (by (with_reducible repeat (first | refine blk_drewN ?_ _ | refine blk_drew ?_ | refine blk_alloc ?_ _)); refine blk_put (cs := #[.int .i64 t551, .int .i64 0]) ?_ 1 _ rfl; (with_reducible repeat (first | refine blk_drewN ?_ _ | refine blk_drew ?_ | refine blk_alloc ?_ _)); refine blk_put (cs := #[.int .i64 0, .int .i64 0]) ?_ 0 _ rfl; (with_reducible repeat (first | refine blk_drewN ?_ _ | refine blk_drew ?_ | refine blk_alloc ?_ _)); exact BK554.out) hb); have n6_ := Aside0.mk (below_step (by repeat (first | (with_reducible first | exact HB.out | apply below_alloc | apply pw_below_drewN | apply below_drew1 | refine below_set ?_ GE537.out | refine below_set ?_ GE541.out | refine below_set ?_ GE542.out | refine below_set ?_ GE546.out | refine below_set ?_ GE550.out | refine below_set ?_ GE554.out) | exact HB.out)) hb); clear BK537; clear BK541; clear BK542; clear BK546; clear BK550; clear BK554; clear HB; have BK537 := n0_; have BK541 := n1_; have BK542 := n2_; have BK546 := n3_; have BK550 := n4_; have BK554 := n5_; have HB := n6_; clear n0_ n1_ n2_ n3_ n4_ n5_ n6_; (try clear hb); (try clear hb2); (try clear hk); (try clear hi)) | ((with_reducible refine gate_dst (N := 11) rfl ?_); refine box_event ?hg (N := 11) ?hd (cs := #[.int .i64 0, .int .i64 0]) (t := 23) ?hr ?_; (case hd => rfl); (case hg => rfl); (case hr => first | (go_simp; done) | (go_simp; rfl)); intro gb558 hg w54 hbox hb; have n0_ := Aside0.mk (blk_below (g := gb537) (o := .cells #[.int .i64 a0_0, .int .i64 a0_1] 23 (0, 0)) (by (with_reducible repeat (first | refine blk_drewN ?_ _ | refine blk_drew ?_ | refine blk_alloc ?_ _)); exact BK537.out) hb); have n1_ := Aside0.mk (blk_below (g := gb541) (o := .cells #[.int .i64 0, .int .i64 1] 23 (0, 0)) (by (with_reducible repeat (first | refine blk_drewN ?_ _ | refine blk_drew ?_ | refine blk_alloc ?_ _)); exact BK541.out) hb); have n2_ := Aside0.mk (blk_below (g := gb542) (o := .cells #[.int .i64 1, .int .i64 1] 23 (0, 0)) (by (with_reducible repeat (first | refine blk_drewN ?_ _ | refine blk_drew ?_ | refine blk_alloc ?_ _)); exact BK542.out) hb); have n3_ := Aside0.mk (blk_below (g := gb546) (o := .cells #[.int .i64 t543, .int .i64 t544] 23 (0, 0)) (by (with_reducible repeat (first | refine blk_drewN ?_ _ | refine blk_drew ?_ | refine blk_alloc ?_ _)); exact BK546.out) hb); have n4_ := Aside0.mk (blk_below (g := gb550) (o := .cells #[.int .i64 t547, .int .i64 t548] 23 (0, 0)) (by (with_reducible repeat (first | refine blk_drewN ?_ _ | refine blk_drew ?_ | refine blk_alloc ?_ _)); exact BK550.out) hb); have n5_ := Aside0.mk (blk_below (g := gb554) (o := .cells #[.int .i64 t551, .int .i64 t552] 23 (0, 0)) (by (with_reducible repeat (first | refine blk_drewN ?_ _ | refine blk_drew ?_ | refine blk_alloc ?_ _)); exact BK554.out) hb); have n6_ := Aside0.mk (below_step (by repeat (first | (with_reducible first | exact HB.out | apply below_alloc | apply pw_below_drewN | apply below_drew1 | refine below_set ?_ GE537.out | refine below_set ?_ GE541.out | refine below_set ?_ GE542.out | refine below_set ?_ GE546.out | refine below_set ?_ GE550.out | refine below_set ?_ GE554.out) | exact HB.out)) hb); have n7_ := Aside0.mk (hbox); have n8_ := Aside0.mk ((by rw [hg]; exact (below_size (by repeat (first | (with_reducible first | exact HB.out | apply below_alloc | apply pw_below_drewN | apply below_drew1 | refine below_set ?_ GE537.out | refine below_set ?_ GE541.out | refine below_set ?_ GE542.out | refine below_set ?_ GE546.out | refine below_set ?_ GE550.out | refine below_set ?_ GE554.out) | exact HB.out))) : w.heap.size ≤ gb558)); have n9_ := Aside0.mk ((by rw [hg]; exact (below_size (by repeat (first | (with_reducible first | exact HB.out | apply below_alloc | apply pw_below_drewN | apply below_drew1 | refine below_set ?_ GE537.out | refine below_set ?_ GE541.out | refine below_set ?_ GE542.out | refine below_set ?_ GE546.out | refine below_set ?_ GE550.out | refine below_set ?_ GE554.out) | exact HB.out))) : w.heap.size ≤ gb558)); have n10_ := Aside0.mk ((by rw [hg]; exact Nat.ne_of_lt (blk_lt (g := gb537) (o := .cells #[.int .i64 a0_0, .int .i64 a0_1] 23 (0, 0)) (by (with_reducible repeat (first | refine blk_drewN ?_ _ | refine blk_drew ?_ | refine blk_alloc ?_ _)); exact BK537.out)) : gb537 ≠ gb558)); have n11_ := Aside0.mk ((by rw [hg]; exact Nat.ne_of_gt (blk_lt (g := gb537) (o := .cells #[.int .i64 a0_0, .int .i64 a0_1] 23 (0, 0)) (by (with_reducible repeat (first | refine blk_drewN ?_ _ | refine blk_drew ?_ | refine blk_alloc ?_ _)); exact BK537.out)) : gb558 ≠ gb537)); have n12_ := Aside0.mk ((by rw [hg]; exact Nat.ne_of_lt (blk_lt (g := gb541) (o := .cells #[.int .i64 0, .int .i64 1] 23 (0, 0)) (by (with_reducible repeat (first | refine blk_drewN ?_ _ | refine blk_drew ?_ | refine blk_alloc ?_ _)); exact BK541.out)) : gb541 ≠ gb558)); have n13_ := Aside0.mk ((by rw [hg]; exact Nat.ne_of_gt (blk_lt (g := gb541) (o := .cells #[.int .i64 0, .int .i64 1] 23 (0, 0)) (by (with_reducible repeat (first | refine blk_drewN ?_ _ | refine blk_drew ?_ | refine blk_alloc ?_ _)); exact BK541.out)) : gb558 ≠ gb541)); have n14_ := Aside0.mk ((by rw [hg]; exact Nat.ne_of_lt (blk_lt (g := gb542) (o := .cells #[.int .i64 1, .int .i64 1] 23 (0, 0)) (by (with_reducible repeat (first | refine blk_drewN ?_ _ | refine blk_drew ?_ | refine blk_alloc ?_ _)); exact BK542.out)) : gb542 ≠ gb558)); have n15_ := Aside0.mk ((by rw [hg]; exact Nat.ne_of_gt (blk_lt (g := gb542) (o := .cells #[.int .i64 1, .int .i64 1] 23 (0, 0)) (by (with_reducible repeat (first | refine blk_drewN ?_ _ | refine blk_drew ?_ | refine blk_alloc ?_ _)); exact BK542.out)) : gb558 ≠ gb542)); have n16_ := Aside0.mk ((by rw [hg]; exact Nat.ne_of_lt (blk_lt (g := gb546) (o := .cells #[.int .i64 t543, .int .i64 t544] 23 (0, 0)) (by (with_reducible repeat (first | refine blk_drewN ?_ _ | refine blk_drew ?_ | refine blk_alloc ?_ _)); exact BK546.out)) : gb546 ≠ gb558)); have n17_ := Aside0.mk ((by rw [hg]; exact Nat.ne_of_gt (blk_lt (g := gb546) (o := .cells #[.int .i64 t543, .int .i64 t544] 23 (0, 0)) (by (with_reducible repeat (first | refine blk_drewN ?_ _ | refine blk_drew ?_ | refine blk_alloc ?_ _)); exact BK546.out)) : gb558 ≠ gb546)); have n18_ := Aside0.mk ((by rw [hg]; exact Nat.ne_of_lt (blk_lt (g := gb550) (o := .cells #[.int .i64 t547, .int .i64 t548] 23 (0, 0)) (by (with_reducible repeat (first | refine blk_drewN ?_ _ | refine blk_drew ?_ | refine blk_alloc ?_ _)); exact BK550.out)) : gb550 ≠ gb558)); have n19_ := Aside0.mk ((by rw [hg]; exact Nat.ne_of_gt (blk_lt (g := gb550) (o := .cells #[.int .i64 t547, .int .i64 t548] 23 (0, 0)) (by (with_reducible repeat (first | refine blk_drewN ?_ _ | refine blk_drew ?_ | refine blk_alloc ?_ _)); exact BK550.out)) : gb558 ≠ gb550)); have n20_ := Aside0.mk ((by rw [hg]; exact Nat.ne_of_lt (blk_lt (g := gb554) (o := .cells #[.int .i64 t551, .int .i64 t552] 23 (0, 0)) (by (with_reducible repeat (first | refine blk_drewN ?_ _ | refine blk_drew ?_ | refine blk_alloc ?_ _)); exact BK554.out)) : gb554 ≠ gb558)); have n21_ := Aside0.mk ((by rw [hg]; exact Nat.ne_of_gt (blk_lt (g := gb554) (o := .cells #[.int .i64 t551, .int .i64 t552] 23 (0, 0)) (by (with_reducible repeat (first | refine blk_drewN ?_ _ | refine blk_drew ?_ | refine blk_alloc ?_ _)); exact BK554.out)) : gb558 ≠ gb554)); clear BK537; clear BK541; clear BK542; clear BK546; clear BK550; clear BK554; clear HB; have BK537 := n0_; have BK541 := n1_; have BK542 := n2_; have BK546 := n3_; have BK550 := n4_; have BK554 := n5_; have HB := n6_; have BK558 := n7_; have GW558 := n8_; have GE558 := n9_; have NB537_558 := n10_; have NB558_537 := n11_; have NB541_558 := n12_; have NB558_541 := n13_; have NB542_558 := n14_; have NB558_542 := n15_; have NB546_558 := n16_; have NB558_546 := n17_; have NB550_558 := n18_; have NB558_550 := n19_; have NB554_558 := n20_; have NB558_554 := n21_; clear n0_ n1_ n2_ n3_ n4_ n5_ n6_ n7_ n8_ n9_ n10_ n11_ n12_ n13_ n14_ n15_ n16_ n17_ n18_ n19_ n20_ n21_; clear hb hbox hg; have hnb55 := NB558_537.out; have hnc55 := NB537_558.out; have hnb56 := NB558_541.out; have hnc56 := NB541_558.out; have hnb57 := NB558_542.out; have hnc57 := NB542_558.out; have hnb58 := NB558_546.out; have hnc58 := NB546_558.out; have hnb59 := NB558_550.out; have hnc59 := NB550_558.out; have hnb60 := NB558_554.out; have hnc60 := NB554_558.out; have hcz61_0 : w54.cell? ⟨gb558, 0, none⟩ = some (.int .i64 0) := (blk_cell BK558.out 0).trans rfl; have hcz61_1 : w54.cell? ⟨gb558, 1, none⟩ = some (.int .i64 0) := (blk_cell BK558.out 1).trans rfl; have hfz61_0 := blk_frozen BK558.out 0; have hfz61_1 := blk_frozen BK558.out 1; have hcz62_0 : w54.cell? ⟨gb537, 0, none⟩ = some (.int .i64 a0_0) := (blk_cell BK537.out 0).trans rfl; have hcz62_1 : w54.cell? ⟨gb537, 1, none⟩ = some (.int .i64 a0_1) := (blk_cell BK537.out 1).trans rfl; have hfz62_0 := blk_frozen BK537.out 0; have hfz62_1 := blk_frozen BK537.out 1; have hcz63_0 : w54.cell? ⟨gb541, 0, none⟩ = some (.int .i64 0) := (blk_cell BK541.out 0).trans rfl; have hcz63_1 : w54.cell? ⟨gb541, 1, none⟩ = some (.int .i64 1) := (blk_cell BK541.out 1).trans rfl; have hfz63_0 := blk_frozen BK541.out 0; have hfz63_1 := blk_frozen BK541.out 1) | ((with_reducible refine gate_callee (f := 14) rfl ?_); refine goesL_ (some 52) rfl rfl Try.func14 (by kernel_rfl) rfl #[.agg #[.int .i64 a0_0, .int .i64 a0_1], .agg #[.int .i64 0, .int .i64 1]] rfl (by (try simp only [List.map_toArray, List.map_cons, List.map_nil]); first | done | rfl | (simp only [List.length_drop, List.length_take]; rfl)) ?_; (with_reducible refine (rat_Mul.calls kj1 a0_0 a0_1 0 1 t559 t560 t561 _ A18.out).mono ?_); rintro e w64 ⟨rfl, hb⟩; refine ⟨_, rfl, ?_⟩; have n0_ := Aside0.mk (blk_below (g := gb537) (o := .cells #[.int .i64 a0_0, .int .i64 a0_1] 23 (0, 0)) (by (with_reducible repeat (first | refine blk_drewN ?_ _ | refine blk_drew ?_ | refine blk_alloc ?_ _)); refine blk_far ?_ NB537_558.out _; (with_reducible repeat (first | refine blk_drewN ?_ _ | refine blk_drew ?_ | refine blk_alloc ?_ _)); refine blk_far ?_ NB537_558.out _; (with_reducible repeat (first | refine blk_drewN ?_ _ | refine blk_drew ?_ | refine blk_alloc ?_ _)); exact BK537.out) hb); have n1_ := Aside0.mk (blk_below (g := gb541) (o := .cells #[.int .i64 0, .int .i64 1] 23 (0, 0)) (by (with_reducible repeat (first | refine blk_drewN ?_ _ | refine blk_drew ?_ | refine blk_alloc ?_ _)); refine blk_far ?_ NB541_558.out _; (with_reducible repeat (first | refine blk_drewN ?_ _ | refine blk_drew ?_ | refine blk_alloc ?_ _)); refine blk_far ?_ NB541_558.out _; (with_reducible repeat (first | refine blk_drewN ?_ _ | refine blk_drew ?_ | refine blk_alloc ?_ _)); exact BK541.out) hb); have n2_ := Aside0.mk (blk_below (g := gb542) (o := .cells #[.int .i64 1, .int .i64 1] 23 (0, 0)) (by (with_reducible repeat (first | refine blk_drewN ?_ _ | refine blk_drew ?_ | refine blk_alloc ?_ _)); refine blk_far ?_ NB542_558.out _; (with_reducible repeat (first | refine blk_drewN ?_ _ | refine blk_drew ?_ | refine blk_alloc ?_ _)); refine blk_far ?_ NB542_558.out _; (with_reducible repeat (first | refine blk_drewN ?_ _ | refine blk_drew ?_ | refine blk_alloc ?_ _)); exact BK542.out) hb); have n3_ := Aside0.mk (blk_below (g := gb546) (o := .cells #[.int .i64 t543, .int .i64 t544] 23 (0, 0)) (by (with_reducible repeat (first | refine blk_drewN ?_ _ | refine blk_drew ?_ | refine blk_alloc ?_ _)); refine blk_far ?_ NB546_558.out _; (with_reducible repeat (first | refine blk_drewN ?_ _ | refine blk_drew ?_ | refine blk_alloc ?_ _)); refine blk_far ?_ NB546_558.out _; (with_reducible repeat (first | refine blk_drewN ?_ _ | refine blk_drew ?_ | refine blk_alloc ?_ _)); exact BK546.out) hb); have n4_ := Aside0.mk (blk_below (g := gb550) (o := .cells #[.int .i64 t547, .int .i64 t548] 23 (0, 0)) (by (with_reducible repeat (first | refine blk_drewN ?_ _ | refine blk_drew ?_ | refine blk_alloc ?_ _)); refine blk_far ?_ NB550_558.out _; (with_reducible repeat (first | refine blk_drewN ?_ _ | refine blk_drew ?_ | refine blk_alloc ?_ _)); refine blk_far ?_ NB550_558.out _; (with_reducible repeat (first | refine blk_drewN ?_ _ | refine blk_drew ?_ | refine blk_alloc ?_ _)); exact BK550.out) hb); have n5_ := Aside0.mk (blk_below (g := gb554) (o := .cells #[.int .i64 t551, .int .i64 t552] 23 (0, 0)) (by (with_reducible repeat (first | refine blk_drewN ?_ _ | refine blk_drew ?_ | refine blk_alloc ?_ _)); refine blk_far ?_ NB554_558.out _; (with_reducible repeat (first | refine blk_drewN ?_ _ | refine blk_drew ?_ | refine blk_alloc ?_ _)); refine blk_far ?_ NB554_558.out _; (with_reducible repeat (first | refine blk_drewN ?_ _ | refine blk_drew ?_ | refine blk_alloc ?_ _)); exact BK554.out) hb); have n6_ := Aside0.mk (blk_below (g := gb558) (o := .cells #[.int .i64 t555, .int .i64 t556] 23 (0, 0)) (by (with_reducible repeat (first | refine blk_drewN ?_ _ | refine blk_drew ?_ | refine blk_alloc ?_ _)); refine blk_put (cs := #[.int .i64 t555, .int .i64 0]) ?_ 1 _ rfl; (with_reducible repeat (first | refine blk_drewN ?_ _ | refine blk_drew ?_ | refine blk_alloc ?_ _)); refine blk_put (cs := #[.int .i64 0, .int .i64 0]) ?_ 0 _ rfl; (with_reducible repeat (first | refine blk_drewN ?_ _ | refine blk_drew ?_ | refine blk_alloc ?_ _)); exact BK558.out) hb); have n7_ := Aside0.mk (below_step (by repeat (first | (with_reducible first | exact HB.out | apply below_alloc | apply pw_below_drewN | apply below_drew1 | refine below_set ?_ GE537.out | refine below_set ?_ GE541.out | refine below_set ?_ GE542.out | refine below_set ?_ GE546.out | refine below_set ?_ GE550.out | refine below_set ?_ GE554.out | refine below_set ?_ GE558.out) | exact HB.out)) hb); clear BK537; clear BK541; clear BK542; clear BK546; clear BK550; clear BK554; clear BK558; clear HB; have BK537 := n0_; have BK541 := n1_; have BK542 := n2_; have BK546 := n3_; have BK550 := n4_; have BK554 := n5_; have BK558 := n6_; have HB := n7_; clear n0_ n1_ n2_ n3_ n4_ n5_ n6_ n7_; (try clear hb); (try clear hb2); (try clear hk); (try clear hi)) | ((with_reducible refine gate_dst (N := 13) rfl ?_); refine box_event ?hg (N := 13) ?hd (cs := #[.int .i64 0, .int .i64 0]) (t := 23) ?hr ?_; (case hd => rfl); (case hg => rfl); (case hr => first | (go_simp; done) | (go_simp; rfl)); intro gb562 hg w65 hbox hb; have n0_ := Aside0.mk (blk_below (g := gb537) (o := .cells #[.int .i64 a0_0, .int .i64 a0_1] 23 (0, 0)) (by (with_reducible repeat (first | refine blk_drewN ?_ _ | refine blk_drew ?_ | refine blk_alloc ?_ _)); exact BK537.out) hb); have n1_ := Aside0.mk (blk_below (g := gb541) (o := .cells #[.int .i64 0, .int .i64 1] 23 (0, 0)) (by (with_reducible repeat (first | refine blk_drewN ?_ _ | refine blk_drew ?_ | refine blk_alloc ?_ _)); exact BK541.out) hb); have n2_ := Aside0.mk (blk_below (g := gb542) (o := .cells #[.int .i64 1, .int .i64 1] 23 (0, 0)) (by (with_reducible repeat (first | refine blk_drewN ?_ _ | refine blk_drew ?_ | refine blk_alloc ?_ _)); exact BK542.out) hb); have n3_ := Aside0.mk (blk_below (g := gb546) (o := .cells #[.int .i64 t543, .int .i64 t544] 23 (0, 0)) (by (with_reducible repeat (first | refine blk_drewN ?_ _ | refine blk_drew ?_ | refine blk_alloc ?_ _)); exact BK546.out) hb); have n4_ := Aside0.mk (blk_below (g := gb550) (o := .cells #[.int .i64 t547, .int .i64 t548] 23 (0, 0)) (by (with_reducible repeat (first | refine blk_drewN ?_ _ | refine blk_drew ?_ | refine blk_alloc ?_ _)); exact BK550.out) hb); have n5_ := Aside0.mk (blk_below (g := gb554) (o := .cells #[.int .i64 t551, .int .i64 t552] 23 (0, 0)) (by (with_reducible repeat (first | refine blk_drewN ?_ _ | refine blk_drew ?_ | refine blk_alloc ?_ _)); exact BK554.out) hb); have n6_ := Aside0.mk (blk_below (g := gb558) (o := .cells #[.int .i64 t555, .int .i64 t556] 23 (0, 0)) (by (with_reducible repeat (first | refine blk_drewN ?_ _ | refine blk_drew ?_ | refine blk_alloc ?_ _)); exact BK558.out) hb); have n7_ := Aside0.mk (below_step (by repeat (first | (with_reducible first | exact HB.out | apply below_alloc | apply pw_below_drewN | apply below_drew1 | refine below_set ?_ GE537.out | refine below_set ?_ GE541.out | refine below_set ?_ GE542.out | refine below_set ?_ GE546.out | refine below_set ?_ GE550.out | refine below_set ?_ GE554.out | refine below_set ?_ GE558.out) | exact HB.out)) hb); have n8_ := Aside0.mk (hbox); have n9_ := Aside0.mk ((by rw [hg]; exact (below_size (by repeat (first | (with_reducible first | exact HB.out | apply below_alloc | apply pw_below_drewN | apply below_drew1 | refine below_set ?_ GE537.out | refine below_set ?_ GE541.out | refine below_set ?_ GE542.out | refine below_set ?_ GE546.out | refine below_set ?_ GE550.out | refine below_set ?_ GE554.out | refine below_set ?_ GE558.out) | exact HB.out))) : w.heap.size ≤ gb562)); have n10_ := Aside0.mk ((by rw [hg]; exact (below_size (by repeat (first | (with_reducible first | exact HB.out | apply below_alloc | apply pw_below_drewN | apply below_drew1 | refine below_set ?_ GE537.out | refine below_set ?_ GE541.out | refine below_set ?_ GE542.out | refine below_set ?_ GE546.out | refine below_set ?_ GE550.out | refine below_set ?_ GE554.out | refine below_set ?_ GE558.out) | exact HB.out))) : w.heap.size ≤ gb562)); have n11_ := Aside0.mk ((by rw [hg]; exact Nat.ne_of_lt (blk_lt (g := gb537) (o := .cells #[.int .i64 a0_0, .int .i64 a0_1] 23 (0, 0)) (by (with_reducible repeat (first | refine blk_drewN ?_ _ | refine blk_drew ?_ | refine blk_alloc ?_ _)); exact BK537.out)) : gb537 ≠ gb562)); have n12_ := Aside0.mk ((by rw [hg]; exact Nat.ne_of_gt (blk_lt (g := gb537) (o := .cells #[.int .i64 a0_0, .int .i64 a0_1] 23 (0, 0)) (by (with_reducible repeat (first | refine blk_drewN ?_ _ | refine blk_drew ?_ | refine blk_alloc ?_ _)); exact BK537.out)) : gb562 ≠ gb537)); have n13_ := Aside0.mk ((by rw [hg]; exact Nat.ne_of_lt (blk_lt (g := gb541) (o := .cells #[.int .i64 0, .int .i64 1] 23 (0, 0)) (by (with_reducible repeat (first | refine blk_drewN ?_ _ | refine blk_drew ?_ | refine blk_alloc ?_ _)); exact BK541.out)) : gb541 ≠ gb562)); have n14_ := Aside0.mk ((by rw [hg]; exact Nat.ne_of_gt (blk_lt (g := gb541) (o := .cells #[.int .i64 0, .int .i64 1] 23 (0, 0)) (by (with_reducible repeat (first | refine blk_drewN ?_ _ | refine blk_drew ?_ | refine blk_alloc ?_ _)); exact BK541.out)) : gb562 ≠ gb541)); have n15_ := Aside0.mk ((by rw [hg]; exact Nat.ne_of_lt (blk_lt (g := gb542) (o := .cells #[.int .i64 1, .int .i64 1] 23 (0, 0)) (by (with_reducible repeat (first | refine blk_drewN ?_ _ | refine blk_drew ?_ | refine blk_alloc ?_ _)); exact BK542.out)) : gb542 ≠ gb562)); have n16_ := Aside0.mk ((by rw [hg]; exact Nat.ne_of_gt (blk_lt (g := gb542) (o := .cells #[.int .i64 1, .int .i64 1] 23 (0, 0)) (by (with_reducible repeat (first | refine blk_drewN ?_ _ | refine blk_drew ?_ | refine blk_alloc ?_ _)); exact BK542.out)) : gb562 ≠ gb542)); have n17_ := Aside0.mk ((by rw [hg]; exact Nat.ne_of_lt (blk_lt (g := gb546) (o := .cells #[.int .i64 t543, .int .i64 t544] 23 (0, 0)) (by (with_reducible repeat (first | refine blk_drewN ?_ _ | refine blk_drew ?_ | refine blk_alloc ?_ _)); exact BK546.out)) : gb546 ≠ gb562)); have n18_ := Aside0.mk ((by rw [hg]; exact Nat.ne_of_gt (blk_lt (g := gb546) (o := .cells #[.int .i64 t543, .int .i64 t544] 23 (0, 0)) (by (with_reducible repeat (first | refine blk_drewN ?_ _ | refine blk_drew ?_ | refine blk_alloc ?_ _)); exact BK546.out)) : gb562 ≠ gb546)); have n19_ := Aside0.mk ((by rw [hg]; exact Nat.ne_of_lt (blk_lt (g := gb550) (o := .cells #[.int .i64 t547, .int .i64 t548] 23 (0, 0)) (by (with_reducible repeat (first | refine blk_drewN ?_ _ | refine blk_drew ?_ | refine blk_alloc ?_ _)); exact BK550.out)) : gb550 ≠ gb562)); have n20_ := Aside0.mk ((by rw [hg]; exact Nat.ne_of_gt (blk_lt (g := gb550) (o := .cells #[.int .i64 t547, .int .i64 t548] 23 (0, 0)) (by (with_reducible repeat (first | refine blk_drewN ?_ _ | refine blk_drew ?_ | refine blk_alloc ?_ _)); exact BK550.out)) : gb562 ≠ gb550)); have n21_ := Aside0.mk ((by rw [hg]; exact Nat.ne_of_lt (blk_lt (g := gb554) (o := .cells #[.int .i64 t551, .int .i64 t552] 23 (0, 0)) (by (with_reducible repeat (first | refine blk_drewN ?_ _ | refine blk_drew ?_ | refine blk_alloc ?_ _)); exact BK554.out)) : gb554 ≠ gb562)); have n22_ := Aside0.mk ((by rw [hg]; exact Nat.ne_of_gt (blk_lt (g := gb554) (o := .cells #[.int .i64 t551, .int .i64 t552] 23 (0, 0)) (by (with_reducible repeat (first | refine blk_drewN ?_ _ | refine blk_drew ?_ | refine blk_alloc ?_ _)); exact BK554.out)) : gb562 ≠ gb554)); have n23_ := Aside0.mk ((by rw [hg]; exact Nat.ne_of_lt (blk_lt (g := gb558) (o := .cells #[.int .i64 t555, .int .i64 t556] 23 (0, 0)) (by (with_reducible repeat (first | refine blk_drewN ?_ _ | refine blk_drew ?_ | refine blk_alloc ?_ _)); exact BK558.out)) : gb558 ≠ gb562)); have n24_ := Aside0.mk ((by rw [hg]; exact Nat.ne_of_gt (blk_lt (g := gb558) (o := .cells #[.int .i64 t555, .int .i64 t556] 23 (0, 0)) (by (with_reducible repeat (first | refine blk_drewN ?_ _ | refine blk_drew ?_ | refine blk_alloc ?_ _)); exact BK558.out)) : gb562 ≠ gb558)); clear BK537; clear BK541; clear BK542; clear BK546; clear BK550; clear BK554; clear BK558; clear HB; have BK537 := n0_; have BK541 := n1_; have BK542 := n2_; have BK546 := n3_; have BK550 := n4_; have BK554 := n5_; have BK558 := n6_; have HB := n7_; have BK562 := n8_; have GW562 := n9_; have GE562 := n10_; have NB537_562 := n11_; have NB562_537 := n12_; have NB541_562 := n13_; have NB562_541 := n14_; have NB542_562 := n15_; have NB562_542 := n16_; have NB546_562 := n17_; have NB562_546 := n18_; have NB550_562 := n19_; have NB562_550 := n20_; have NB554_562 := n21_; have NB562_554 := n22_; have NB558_562 := n23_; have NB562_558 := n24_; clear n0_ n1_ n2_ n3_ n4_ n5_ n6_ n7_ n8_ n9_ n10_ n11_ n12_ n13_ n14_ n15_ n16_ n17_ n18_ n19_ n20_ n21_ n22_ n23_ n24_; clear hb hbox hg; have hnb66 := NB562_537.out; have hnc66 := NB537_562.out; have hnb67 := NB562_541.out; have hnc67 := NB541_562.out; have hnb68 := NB562_542.out; have hnc68 := NB542_562.out; have hnb69 := NB562_546.out; have hnc69 := NB546_562.out; have hnb70 := NB562_550.out; have hnc70 := NB550_562.out; have hnb71 := NB562_554.out; have hnc71 := NB554_562.out; have hnb72 := NB562_558.out; have hnc72 := NB558_562.out; have hcz73_0 : w65.cell? ⟨gb562, 0, none⟩ = some (.int .i64 0) := (blk_cell BK562.out 0).trans rfl; have hcz73_1 : w65.cell? ⟨gb562, 1, none⟩ = some (.int .i64 0) := (blk_cell BK562.out 1).trans rfl; have hfz73_0 := blk_frozen BK562.out 0; have hfz73_1 := blk_frozen BK562.out 1))
        (try simp only [Act.put, List.setIfInBounds_toArray, List.set_cons_zero, List.set_cons_succ])
        go_cut [88] (fun v88 wc => ∃ (kq : Nat) (x88_18 : Bool), v88 = .bool x88_18 ∧ Aside0 (ballcocklaw01_RatNoughts.j1 kq t557 x88_18 a0_0 a0_1 1 1 t555 t556 = some r) ∧ Aside0 (kq ≤ kj1) ∧ Aside0 (wc.heap[gb537]? = some (.cells #[.int .i64 a0_0, .int .i64 a0_1] 23 (0, 0))) ∧ Aside0 (wc.heap[gb541]? = some (.cells #[.int .i64 0, .int .i64 1] 23 (0, 0))) ∧ Aside0 (wc.heap[gb542]? = some (.cells #[.int .i64 1, .int .i64 1] 23 (0, 0))) ∧ Aside0 (wc.heap[gb546]? = some (.cells #[.int .i64 t543, .int .i64 t544] 23 (0, 0))) ∧ Aside0 (wc.heap[gb550]? = some (.cells #[.int .i64 t547, .int .i64 t548] 23 (0, 0))) ∧ Aside0 (wc.heap[gb554]? = some (.cells #[.int .i64 t551, .int .i64 t552] 23 (0, 0))) ∧ Aside0 (wc.heap[gb558]? = some (.cells #[.int .i64 t555, .int .i64 t556] 23 (0, 0))) ∧ Aside0 (wc.heap[gb562]? = some (.cells #[.int .i64 t559, .int .i64 t560] 23 (0, 0))) ∧ Aside0 (Below w.heap.size w wc))
        case first =>
          have H := HC19.out
          clear HC19
          by_cases c74 : (!(t543 == a0_0) || (!(t544 == a0_1))) = true
          · rw [if_pos c74] at H
            subst hr_
            exact absurd H (by cases kj1 <;> simp [ballcocklaw01_RatNoughts.j1])
          · rw [if_neg c74] at H
            have c74b0 : (!(t543 == a0_0) || (!(t544 == a0_1))) = false := by simpa using c74
            clear c74
            (first | rw [c74b0] | (simp only [i64_w, i32_w]; rw [c74b0]) | skip)
            by_cases c90 : (!(t547 == a0_0) || (!(t548 == a0_1))) = true
            · rw [if_pos c90] at H
              subst hr_
              exact absurd H (by cases kj1 <;> simp [ballcocklaw01_RatNoughts.j1])
            · rw [if_neg c90] at H
              have c90b0 : (!(t547 == a0_0) || (!(t548 == a0_1))) = false := by simpa using c90
              clear c90
              by_cases c112 : (!(t551 == 0) || (!(t552 == 1))) = true
              · rw [if_pos c112] at H
                subst hr_
                exact absurd H (by cases kj1 <;> simp [ballcocklaw01_RatNoughts.j1])
              · rw [if_neg c112] at H
                have c112b0 : (!(t551 == 0) || (!(t552 == 1))) = false := by simpa using c112
                clear c112
                by_cases c143 : (!(t559 == 0) || (!(t560 == 1))) = true
                · rw [if_pos c143] at H
                  subst hr_
                  exact absurd H (by cases kj1 <;> simp [ballcocklaw01_RatNoughts.j1])
                · rw [if_neg c143] at H
                  have c143b0 : (!(t559 == 0) || (!(t560 == 1))) = false := by simpa using c143
                  clear c143
                  by_cases c177 : t545 = 0
                  · rw [if_pos c177] at H
                    have c177b0 : (t545 == 0) = true := beq_iff_eq.mpr c177
                    have c177b1 : (t545 != 0) = false := bne_eq_false_iff_eq.mpr c177
                    clear c177
                    by_cases c178 : t549 = 0
                    · rw [if_pos c178] at H
                      have c178b0 : (t549 == 0) = true := beq_iff_eq.mpr c178
                      have c178b1 : (t549 != 0) = false := bne_eq_false_iff_eq.mpr c178
                      clear c178
                      by_cases c179 : t553 = 0
                      · rw [if_pos c179] at H
                        have c179b0 : (t553 == 0) = true := beq_iff_eq.mpr c179
                        have c179b1 : (t553 != 0) = false := bne_eq_false_iff_eq.mpr c179
                        clear c179
                        have H' := Aside0.mk H
                        clear H
                        have hnb180 := NB546_537.out
                        have hnc180 := NB537_546.out
                        have hnb181 := NB546_541.out
                        have hnc181 := NB541_546.out
                        have hnb182 := NB546_542.out
                        have hnc182 := NB542_546.out
                        have hnb183 := NB546_550.out
                        have hnc183 := NB550_546.out
                        have hnb184 := NB546_554.out
                        have hnc184 := NB554_546.out
                        have hnb185 := NB546_558.out
                        have hnc185 := NB558_546.out
                        have hnb186 := NB546_562.out
                        have hnc186 := NB562_546.out
                        have hcz187_0 : w65.cell? ⟨gb546, 0, none⟩ = some (.int .i64 t543) := (blk_cell BK546.out 0).trans rfl
                        have hcz187_1 : w65.cell? ⟨gb546, 1, none⟩ = some (.int .i64 t544) := (blk_cell BK546.out 1).trans rfl
                        have hfz187_0 := blk_frozen BK546.out 0
                        have hfz187_1 := blk_frozen BK546.out 1
                        have hnb188 := NB537_541.out
                        have hnc188 := NB541_537.out
                        have hnb189 := NB537_542.out
                        have hnc189 := NB542_537.out
                        have hnb190 := NB537_550.out
                        have hnc190 := NB550_537.out
                        have hnb191 := NB537_554.out
                        have hnc191 := NB554_537.out
                        have hnb192 := NB537_558.out
                        have hnc192 := NB558_537.out
                        have hnb193 := NB537_562.out
                        have hnc193 := NB562_537.out
                        have hcz194_0 : w65.cell? ⟨gb537, 0, none⟩ = some (.int .i64 a0_0) := (blk_cell BK537.out 0).trans rfl
                        have hcz194_1 : w65.cell? ⟨gb537, 1, none⟩ = some (.int .i64 a0_1) := (blk_cell BK537.out 1).trans rfl
                        have hfz194_0 := blk_frozen BK537.out 0
                        have hfz194_1 := blk_frozen BK537.out 1
                        have hnb195 := NB550_541.out
                        have hnc195 := NB541_550.out
                        have hnb196 := NB550_542.out
                        have hnc196 := NB542_550.out
                        have hnb197 := NB550_554.out
                        have hnc197 := NB554_550.out
                        have hnb198 := NB550_558.out
                        have hnc198 := NB558_550.out
                        have hnb199 := NB550_562.out
                        have hnc199 := NB562_550.out
                        have hcz200_0 : w65.cell? ⟨gb550, 0, none⟩ = some (.int .i64 t547) := (blk_cell BK550.out 0).trans rfl
                        have hcz200_1 : w65.cell? ⟨gb550, 1, none⟩ = some (.int .i64 t548) := (blk_cell BK550.out 1).trans rfl
                        have hfz200_0 := blk_frozen BK550.out 0
                        have hfz200_1 := blk_frozen BK550.out 1
                        have hnb201 := NB554_541.out
                        have hnc201 := NB541_554.out
                        have hnb202 := NB554_542.out
                        have hnc202 := NB542_554.out
                        have hnb203 := NB554_558.out
                        have hnc203 := NB558_554.out
                        have hnb204 := NB554_562.out
                        have hnc204 := NB562_554.out
                        have hcz205_0 : w65.cell? ⟨gb554, 0, none⟩ = some (.int .i64 t551) := (blk_cell BK554.out 0).trans rfl
                        have hcz205_1 : w65.cell? ⟨gb554, 1, none⟩ = some (.int .i64 t552) := (blk_cell BK554.out 1).trans rfl
                        have hfz205_0 := blk_frozen BK554.out 0
                        have hfz205_1 := blk_frozen BK554.out 1
                        have hnb206 := NB541_542.out
                        have hnc206 := NB542_541.out
                        have hnb207 := NB541_558.out
                        have hnc207 := NB558_541.out
                        have hnb208 := NB541_562.out
                        have hnc208 := NB562_541.out
                        have hcz209_0 : w65.cell? ⟨gb541, 0, none⟩ = some (.int .i64 0) := (blk_cell BK541.out 0).trans rfl
                        have hcz209_1 : w65.cell? ⟨gb541, 1, none⟩ = some (.int .i64 1) := (blk_cell BK541.out 1).trans rfl
                        have hfz209_0 := blk_frozen BK541.out 0
                        have hfz209_1 := blk_frozen BK541.out 1
                        have hnb210 := NB562_542.out
                        have hnc210 := NB542_562.out
                        have hnb211 := NB562_558.out
                        have hnc211 := NB558_562.out
                        have hcz212_0 : w65.cell? ⟨gb562, 0, none⟩ = some (.int .i64 0) := (blk_cell BK562.out 0).trans rfl
                        have hcz212_1 : w65.cell? ⟨gb562, 1, none⟩ = some (.int .i64 0) := (blk_cell BK562.out 1).trans rfl
                        have hfz212_0 := blk_frozen BK562.out 0
                        have hfz212_1 := blk_frozen BK562.out 1
                        go_wp2
                        go_meet
                        case rel => exact ⟨_, ((t561 != 0)), (by first | rfl | (simp; done) | (simp [*]; done)), H', ⟨by have := HJ1.out; first | omega | exact Nat.le_refl _⟩, ⟨by (with_reducible repeat (first | refine blk_drewN ?_ _ | refine blk_drew ?_ | refine blk_alloc ?_ _)); refine blk_far ?_ NB537_562.out _; (with_reducible repeat (first | refine blk_drewN ?_ _ | refine blk_drew ?_ | refine blk_alloc ?_ _)); refine blk_far ?_ NB537_562.out _; (with_reducible repeat (first | refine blk_drewN ?_ _ | refine blk_drew ?_ | refine blk_alloc ?_ _)); exact BK537.out⟩, ⟨by (with_reducible repeat (first | refine blk_drewN ?_ _ | refine blk_drew ?_ | refine blk_alloc ?_ _)); refine blk_far ?_ NB541_562.out _; (with_reducible repeat (first | refine blk_drewN ?_ _ | refine blk_drew ?_ | refine blk_alloc ?_ _)); refine blk_far ?_ NB541_562.out _; (with_reducible repeat (first | refine blk_drewN ?_ _ | refine blk_drew ?_ | refine blk_alloc ?_ _)); exact BK541.out⟩, ⟨by (with_reducible repeat (first | refine blk_drewN ?_ _ | refine blk_drew ?_ | refine blk_alloc ?_ _)); refine blk_far ?_ NB542_562.out _; (with_reducible repeat (first | refine blk_drewN ?_ _ | refine blk_drew ?_ | refine blk_alloc ?_ _)); refine blk_far ?_ NB542_562.out _; (with_reducible repeat (first | refine blk_drewN ?_ _ | refine blk_drew ?_ | refine blk_alloc ?_ _)); exact BK542.out⟩, ⟨by (with_reducible repeat (first | refine blk_drewN ?_ _ | refine blk_drew ?_ | refine blk_alloc ?_ _)); refine blk_far ?_ NB546_562.out _; (with_reducible repeat (first | refine blk_drewN ?_ _ | refine blk_drew ?_ | refine blk_alloc ?_ _)); refine blk_far ?_ NB546_562.out _; (with_reducible repeat (first | refine blk_drewN ?_ _ | refine blk_drew ?_ | refine blk_alloc ?_ _)); exact BK546.out⟩, ⟨by (with_reducible repeat (first | refine blk_drewN ?_ _ | refine blk_drew ?_ | refine blk_alloc ?_ _)); refine blk_far ?_ NB550_562.out _; (with_reducible repeat (first | refine blk_drewN ?_ _ | refine blk_drew ?_ | refine blk_alloc ?_ _)); refine blk_far ?_ NB550_562.out _; (with_reducible repeat (first | refine blk_drewN ?_ _ | refine blk_drew ?_ | refine blk_alloc ?_ _)); exact BK550.out⟩, ⟨by (with_reducible repeat (first | refine blk_drewN ?_ _ | refine blk_drew ?_ | refine blk_alloc ?_ _)); refine blk_far ?_ NB554_562.out _; (with_reducible repeat (first | refine blk_drewN ?_ _ | refine blk_drew ?_ | refine blk_alloc ?_ _)); refine blk_far ?_ NB554_562.out _; (with_reducible repeat (first | refine blk_drewN ?_ _ | refine blk_drew ?_ | refine blk_alloc ?_ _)); exact BK554.out⟩, ⟨by (with_reducible repeat (first | refine blk_drewN ?_ _ | refine blk_drew ?_ | refine blk_alloc ?_ _)); refine blk_far ?_ NB558_562.out _; (with_reducible repeat (first | refine blk_drewN ?_ _ | refine blk_drew ?_ | refine blk_alloc ?_ _)); refine blk_far ?_ NB558_562.out _; (with_reducible repeat (first | refine blk_drewN ?_ _ | refine blk_drew ?_ | refine blk_alloc ?_ _)); exact BK558.out⟩, ⟨by (with_reducible repeat (first | refine blk_drewN ?_ _ | refine blk_drew ?_ | refine blk_alloc ?_ _)); refine blk_put (cs := #[.int .i64 t559, .int .i64 0]) ?_ 1 _ rfl; (with_reducible repeat (first | refine blk_drewN ?_ _ | refine blk_drew ?_ | refine blk_alloc ?_ _)); refine blk_put (cs := #[.int .i64 0, .int .i64 0]) ?_ 0 _ rfl; (with_reducible repeat (first | refine blk_drewN ?_ _ | refine blk_drew ?_ | refine blk_alloc ?_ _)); exact BK562.out⟩, ⟨by repeat (first | (with_reducible first | exact HB.out | apply below_alloc | apply pw_below_drewN | apply below_drew1 | refine below_set ?_ GE537.out | refine below_set ?_ GE541.out | refine below_set ?_ GE542.out | refine below_set ?_ GE546.out | refine below_set ?_ GE550.out | refine below_set ?_ GE554.out | refine below_set ?_ GE558.out | refine below_set ?_ GE562.out) | exact HB.out)⟩⟩
                      · rw [if_neg c179] at H
                        subst hr_
                        exact absurd H (by cases kj1 <;> simp [ballcocklaw01_RatNoughts.j1])
                    · rw [if_neg c178] at H
                      subst hr_
                      exact absurd H (by cases kj1 <;> simp [ballcocklaw01_RatNoughts.j1])
                  · rw [if_neg c177] at H
                    subst hr_
                    exact absurd H (by cases kj1 <;> simp [ballcocklaw01_RatNoughts.j1])
        case rest =>
          clear HC19
          try clear c1
          try clear c2
          try clear p2
          try clear c3
          try clear c7
          try clear c9
          try clear c10
          try clear c11
          try clear c12
          try clear c13
          try clear c14
          try clear c15
          try clear c16
          try clear c17
          try clear c18
          try clear c19
          try clear c20
          try clear c21
          try clear c22
          try clear c23
          try clear c24
          try clear c25
          try clear c26
          try clear c27
          try clear c28
          try clear c29
          try clear c30
          try clear c31
          try clear c74
          try clear c74b0
          try clear c90
          try clear c90b0
          try clear c91
          try clear c92
          try clear c93
          try clear c94
          try clear c95
          try clear c96
          try clear c97
          try clear c99
          try clear c100
          try clear c101
          try clear c102
          try clear c103
          try clear c104
          try clear c106
          try clear c107
          try clear c108
          try clear c109
          try clear c110
          try clear c112
          try clear c112b0
          try clear c113
          try clear c114
          try clear c115
          try clear c116
          try clear c117
          try clear c118
          try clear c119
          try clear c121
          try clear c122
          try clear c123
          try clear c124
          try clear c125
          try clear c126
          try clear c128
          try clear c129
          try clear c130
          try clear c131
          try clear c132
          try clear c134
          try clear c135
          try clear c136
          try clear c137
          try clear c139
          try clear c140
          try clear c141
          try clear c143
          try clear c143b0
          try clear c144
          try clear c145
          try clear c146
          try clear c147
          try clear c148
          try clear c149
          try clear c150
          try clear c152
          try clear c153
          try clear c154
          try clear c155
          try clear c156
          try clear c157
          try clear c159
          try clear c160
          try clear c161
          try clear c162
          try clear c163
          try clear c165
          try clear c166
          try clear c167
          try clear c168
          try clear c170
          try clear c171
          try clear c172
          try clear c174
          try clear c175
          try clear c177
          try clear c177b0
          try clear c177b1
          try clear c178
          try clear c178b0
          try clear c178b1
          try clear c179
          try clear c179b0
          try clear c179b1
          try clear c180
          try clear c181
          try clear c182
          try clear c183
          try clear c184
          try clear c185
          try clear c186
          try clear c188
          try clear c189
          try clear c190
          try clear c191
          try clear c192
          try clear c193
          try clear c195
          try clear c196
          try clear c197
          try clear c198
          try clear c199
          try clear c201
          try clear c202
          try clear c203
          try clear c204
          try clear c206
          try clear c207
          try clear c208
          try clear c210
          try clear c211
          try clear c213
          try clear c214
          try clear c215
          try clear c216
          try clear c217
          try clear c218
          try clear c219
          try clear c221
          try clear c222
          try clear c223
          try clear c224
          try clear c225
          try clear c226
          try clear c228
          try clear c229
          try clear c230
          try clear c231
          try clear c232
          try clear c234
          try clear c235
          try clear c236
          try clear c237
          try clear c239
          try clear c240
          try clear c241
          try clear c243
          try clear c244
          try clear c246
          try clear c247
          try clear c248
          try clear c249
          try clear c250
          try clear c251
          try clear c252
          try clear c254
          try clear c255
          try clear c256
          try clear c257
          try clear c258
          try clear c259
          try clear c261
          try clear c262
          try clear c263
          try clear c264
          try clear c265
          try clear c267
          try clear c268
          try clear c269
          try clear c270
          try clear c272
          try clear c273
          try clear c274
          try clear c276
          try clear c277
          try clear c279
          try clear c280
          try clear c281
          try clear c282
          try clear c283
          try clear c284
          try clear c285
          try clear c287
          try clear c288
          try clear c289
          try clear c290
          try clear c291
          try clear c292
          try clear c294
          try clear c295
          try clear c296
          try clear c297
          try clear c298
          try clear c300
          try clear c301
          try clear c302
          try clear c303
          try clear c305
          try clear c306
          try clear c307
          try clear c309
          try clear c310
          try clear hcz105_0
          try clear hcz105_1
          try clear hcz111_0
          try clear hcz111_1
          try clear hcz120_0
          try clear hcz120_1
          try clear hcz127_0
          try clear hcz127_1
          try clear hcz133_0
          try clear hcz133_1
          try clear hcz138_0
          try clear hcz138_1
          try clear hcz142_0
          try clear hcz142_1
          try clear hcz151_0
          try clear hcz151_1
          try clear hcz158_0
          try clear hcz158_1
          try clear hcz164_0
          try clear hcz164_1
          try clear hcz169_0
          try clear hcz169_1
          try clear hcz173_0
          try clear hcz173_1
          try clear hcz176_0
          try clear hcz176_1
          try clear hcz187_0
          try clear hcz187_1
          try clear hcz194_0
          try clear hcz194_1
          try clear hcz200_0
          try clear hcz200_1
          try clear hcz205_0
          try clear hcz205_1
          try clear hcz209_0
          try clear hcz209_1
          try clear hcz212_0
          try clear hcz212_1
          try clear hcz220_0
          try clear hcz220_1
          try clear hcz227_0
          try clear hcz227_1
          try clear hcz233_0
          try clear hcz233_1
          try clear hcz238_0
          try clear hcz238_1
          try clear hcz242_0
          try clear hcz242_1
          try clear hcz245_0
          try clear hcz245_1
          try clear hcz253_0
          try clear hcz253_1
          try clear hcz260_0
          try clear hcz260_1
          try clear hcz266_0
          try clear hcz266_1
          try clear hcz271_0
          try clear hcz271_1
          try clear hcz275_0
          try clear hcz275_1
          try clear hcz278_0
          try clear hcz278_1
          try clear hcz286_0
          try clear hcz286_1
          try clear hcz293_0
          try clear hcz293_1
          try clear hcz299_0
          try clear hcz299_1
          try clear hcz304_0
          try clear hcz304_1
          try clear hcz308_0
          try clear hcz308_1
          try clear hcz311_0
          try clear hcz311_1
          try clear hcz89_1
          try clear hcz98_0
          try clear hcz98_1
          try clear hfz105_0
          try clear hfz105_1
          try clear hfz111_0
          try clear hfz111_1
          try clear hfz120_0
          try clear hfz120_1
          try clear hfz127_0
          try clear hfz127_1
          try clear hfz133_0
          try clear hfz133_1
          try clear hfz138_0
          try clear hfz138_1
          try clear hfz142_0
          try clear hfz142_1
          try clear hfz151_0
          try clear hfz151_1
          try clear hfz158_0
          try clear hfz158_1
          try clear hfz164_0
          try clear hfz164_1
          try clear hfz169_0
          try clear hfz169_1
          try clear hfz173_0
          try clear hfz173_1
          try clear hfz176_0
          try clear hfz176_1
          try clear hfz187_0
          try clear hfz187_1
          try clear hfz194_0
          try clear hfz194_1
          try clear hfz200_0
          try clear hfz200_1
          try clear hfz205_0
          try clear hfz205_1
          try clear hfz209_0
          try clear hfz209_1
          try clear hfz212_0
          try clear hfz212_1
          try clear hfz220_0
          try clear hfz220_1
          try clear hfz227_0
          try clear hfz227_1
          try clear hfz233_0
          try clear hfz233_1
          try clear hfz238_0
          try clear hfz238_1
          try clear hfz242_0
          try clear hfz242_1
          try clear hfz245_0
          try clear hfz245_1
          try clear hfz253_0
          try clear hfz253_1
          try clear hfz260_0
          try clear hfz260_1
          try clear hfz266_0
          try clear hfz266_1
          try clear hfz271_0
          try clear hfz271_1
          try clear hfz275_0
          try clear hfz275_1
          try clear hfz278_0
          try clear hfz278_1
          try clear hfz286_0
          try clear hfz286_1
          try clear hfz293_0
          try clear hfz293_1
          try clear hfz299_0
          try clear hfz299_1
          try clear hfz304_0
          try clear hfz304_1
          try clear hfz308_0
          try clear hfz308_1
          try clear hfz311_0
          try clear hfz311_1
          try clear hfz89_0
          try clear hfz89_1
          try clear hfz98_0
          try clear hfz98_1
          obtain ⟨kq, x88_18, rfl, HA, HJ18, BK537, BK541, BK542, BK546, BK550, BK554, BK558, BK562, HB⟩ := hcut
          cases kq with
          | zero => exact absurd HA.out (by simp [ballcocklaw01_RatNoughts.j1])
          | succ kj18 =>
            have H := HA.out
            clear HA
            simp only [ballcocklaw01_RatNoughts.j1] at H
            by_cases c312 : x88_18 = true
            · subst c312
              have H1 : (some false) = some r := by rw [if_pos rfl] at H; exact H
              clear H
              have H := H1
              clear H1
              subst hr_
              exact absurd H (by simp)
            · replace c312 := Bool.eq_false_iff.mpr c312
              subst c312
              have H1 : (if a0_0 = 0 then (if t557 = 2 then (some true) else (some false)) else (if t557 = 0 then (some (t555 == 1 && (t556 == 1))) else (some false))) = some r := by rw [if_neg (show ¬ (false = true) by decide)] at H; exact H
              clear H
              have H := H1
              clear H1
              by_cases c313 : a0_0 = 0
              · rw [if_pos c313] at H
                have c313b0 : (a0_0 == 0) = true := beq_iff_eq.mpr c313
                have c313b1 : (a0_0 != 0) = false := bne_eq_false_iff_eq.mpr c313
                clear c313
                by_cases c314 : t557 = 2
                · rw [if_pos c314] at H
                  have c314b0 : (t557 == 2) = true := beq_iff_eq.mpr c314
                  have c314b1 : (t557 != 2) = false := bne_eq_false_iff_eq.mpr c314
                  clear c314
                  obtain rfl := Option.some.inj H
                  have hnb315 := NB537_541.out
                  have hnc315 := NB541_537.out
                  have hnb316 := NB537_542.out
                  have hnc316 := NB542_537.out
                  have hnb317 := NB537_546.out
                  have hnc317 := NB546_537.out
                  have hnb318 := NB537_550.out
                  have hnc318 := NB550_537.out
                  have hnb319 := NB537_554.out
                  have hnc319 := NB554_537.out
                  have hnb320 := NB537_558.out
                  have hnc320 := NB558_537.out
                  have hnb321 := NB537_562.out
                  have hnc321 := NB562_537.out
                  have hcz322_0 : wc.cell? ⟨gb537, 0, none⟩ = some (.int .i64 a0_0) := (blk_cell BK537.out 0).trans rfl
                  have hcz322_1 : wc.cell? ⟨gb537, 1, none⟩ = some (.int .i64 a0_1) := (blk_cell BK537.out 1).trans rfl
                  have hfz322_0 := blk_frozen BK537.out 0
                  have hfz322_1 := blk_frozen BK537.out 1
                  go_wp2
                  go_ret
                  exact ⟨by first | rfl | (simp [errW_none, errW_some] <;> rfl) | (simp [*, errW_none, errW_some] <;> rfl), by repeat (first | (with_reducible first | exact HB.out | apply below_alloc | apply pw_below_drewN | apply below_drew1 | refine below_set ?_ GE537.out | refine below_set ?_ GE541.out | refine below_set ?_ GE542.out | refine below_set ?_ GE546.out | refine below_set ?_ GE550.out | refine below_set ?_ GE554.out | refine below_set ?_ GE558.out | refine below_set ?_ GE562.out) | exact HB.out)⟩
                · rw [if_neg c314] at H
                  have c314b0 : (t557 == 2) = false := beq_eq_false_iff_ne.mpr c314
                  have c314b1 : (t557 != 2) = true := bne_iff_ne.mpr c314
                  subst hr_
                  exact absurd H (by simp)
              · rw [if_neg c313] at H
                have c313b0 : (a0_0 == 0) = false := beq_eq_false_iff_ne.mpr c313
                have c313b1 : (a0_0 != 0) = true := bne_iff_ne.mpr c313
                by_cases c323 : t557 = 0
                · rw [if_pos c323] at H
                  have c323b0 : (t557 == 0) = true := beq_iff_eq.mpr c323
                  have c323b1 : (t557 != 0) = false := bne_eq_false_iff_eq.mpr c323
                  clear c323
                  obtain rfl := Option.some.inj H
                  have hnb324 := NB537_541.out
                  have hnc324 := NB541_537.out
                  have hnb325 := NB537_542.out
                  have hnc325 := NB542_537.out
                  have hnb326 := NB537_546.out
                  have hnc326 := NB546_537.out
                  have hnb327 := NB537_550.out
                  have hnc327 := NB550_537.out
                  have hnb328 := NB537_554.out
                  have hnc328 := NB554_537.out
                  have hnb329 := NB537_558.out
                  have hnc329 := NB558_537.out
                  have hnb330 := NB537_562.out
                  have hnc330 := NB562_537.out
                  have hcz331_0 : wc.cell? ⟨gb537, 0, none⟩ = some (.int .i64 a0_0) := (blk_cell BK537.out 0).trans rfl
                  have hcz331_1 : wc.cell? ⟨gb537, 1, none⟩ = some (.int .i64 a0_1) := (blk_cell BK537.out 1).trans rfl
                  have hfz331_0 := blk_frozen BK537.out 0
                  have hfz331_1 := blk_frozen BK537.out 1
                  have hnb332 := NB558_541.out
                  have hnc332 := NB541_558.out
                  have hnb333 := NB558_542.out
                  have hnc333 := NB542_558.out
                  have hnb334 := NB558_546.out
                  have hnc334 := NB546_558.out
                  have hnb335 := NB558_550.out
                  have hnc335 := NB550_558.out
                  have hnb336 := NB558_554.out
                  have hnc336 := NB554_558.out
                  have hnb337 := NB558_562.out
                  have hnc337 := NB562_558.out
                  have hcz338_0 : wc.cell? ⟨gb558, 0, none⟩ = some (.int .i64 t555) := (blk_cell BK558.out 0).trans rfl
                  have hcz338_1 : wc.cell? ⟨gb558, 1, none⟩ = some (.int .i64 t556) := (blk_cell BK558.out 1).trans rfl
                  have hfz338_0 := blk_frozen BK558.out 0
                  have hfz338_1 := blk_frozen BK558.out 1
                  have hnb339 := NB542_541.out
                  have hnc339 := NB541_542.out
                  have hnb340 := NB542_546.out
                  have hnc340 := NB546_542.out
                  have hnb341 := NB542_550.out
                  have hnc341 := NB550_542.out
                  have hnb342 := NB542_554.out
                  have hnc342 := NB554_542.out
                  have hnb343 := NB542_562.out
                  have hnc343 := NB562_542.out
                  have hcz344_0 : wc.cell? ⟨gb542, 0, none⟩ = some (.int .i64 1) := (blk_cell BK542.out 0).trans rfl
                  have hcz344_1 : wc.cell? ⟨gb542, 1, none⟩ = some (.int .i64 1) := (blk_cell BK542.out 1).trans rfl
                  have hfz344_0 := blk_frozen BK542.out 0
                  have hfz344_1 := blk_frozen BK542.out 1
                  go_wp2
                  go_ret
                  exact ⟨by first | rfl | (simp [errW_none, errW_some] <;> rfl) | (simp [*, errW_none, errW_some] <;> rfl), by repeat (first | (with_reducible first | exact HB.out | apply below_alloc | apply pw_below_drewN | apply below_drew1 | refine below_set ?_ GE537.out | refine below_set ?_ GE541.out | refine below_set ?_ GE542.out | refine below_set ?_ GE546.out | refine below_set ?_ GE550.out | refine below_set ?_ GE554.out | refine below_set ?_ GE558.out | refine below_set ?_ GE562.out) | exact HB.out)⟩
                · rw [if_neg c323] at H
                  have c323b0 : (t557 == 0) = false := beq_eq_false_iff_ne.mpr c323
                  have c323b1 : (t557 != 0) = true := bne_iff_ne.mpr c323
                  subst hr_
                  exact absurd H (by simp)

end Go.Proofs.Ytpcdcanmbokpfaa.PRat
