-- Written by a program of this session (wip/myprint.py).
import Derived.Test.YtbnligfjcmmjpaaPWfWorldCountsx0
import Derived.Test.YtbnligfjcmmjpaaPWfWorldCountsx1
import Derived.Test.YtbnligfjcmmjpaaPWfWorldCountsx2
namespace Go.Proofs.Ytbnligfjcmmjpaa.PWfWorldCounts
open Go.RowKit Go.Proofs.YtbnligfjcmmjpaaW.PrintWords Go.Proofs.YtbnligfjcmmjpaaW.PrintLast Go.Proofs.YtbnligfjcmmjpaaW.PrintMore
attribute [local go_sem] max2_int min2_int max_two min_two max_three min_three max_four min_four   -- for this text's walks alone
set_option linter.unusedVariables false
set_option linter.unusedSimpArgs false

/-! ### ballcocklaw21_WorldCounts: function 6 -/
mutual
def ballcocklaw21_WorldCounts.j0 : Nat → Int → List Int → Bool → Option (Bool)
  | 0, _, _, _ => none
  | k + 1, x0, x1, x15 => if x15 = true then ((ballcocklaw21_awake.f k).bind fun t123 => (some t123)) else (if 0 ≤ (wrap64 (x0)) then (if (wrap64 (x0) : Int).toNat ≤ 35184372088832 then ((some (List.replicate (wrap64 (x0) : Int).toNat 0 : List Int)).bind fun y124 => ((world_New.f y124).bind fun bt127 => (ballcocklaw21_WorldCounts.l0 k x1 y124 0 0 bt127.1 bt127.2))) else (none)) else (none))
def ballcocklaw21_WorldCounts.l0 : Nat → List Int → List Int → Int → Int → List Int → Int → Option (Bool)
  | 0, _, _, _, _, _, _ => none
  | k + 1, x1, x5, x7, x8, x130000, x130001 => if x8 < (x1.length : Int) then (if 0 ≤ x8 then ((world_World_Choose.f k x130000 x130001 (rd x1 x8)).bind fun bt131 => (if bt131.1 = 0 then (if (rd x1 x8) > 0 then (ballcocklaw21_WorldCounts.j2 k x1 x5 x7 x8 (decide (x7 < (x5.length : Int))) x130000 bt131.2) else (ballcocklaw21_WorldCounts.j2 k x1 x5 x7 x8 false x130000 bt131.2)) else (some false))) else (none)) else (some true)
def ballcocklaw21_WorldCounts.j2 : Nat → List Int → List Int → Int → Int → Bool → List Int → Int → Option (Bool)
  | 0, _, _, _, _, _, _, _ => none
  | k + 1, x1, x5, x7, x8, x45, x130000, x130001 => if x45 = true then (ballcocklaw21_WorldCounts.j3 k x1 x5 (wrap64 (x7 + 1)) x8 x130000 x130001) else (ballcocklaw21_WorldCounts.j3 k x1 x5 x7 x8 x130000 x130001)
def ballcocklaw21_WorldCounts.j3 : Nat → List Int → List Int → Int → Int → List Int → Int → Option (Bool)
  | 0, _, _, _, _, _, _ => none
  | k + 1, x1, x5, x7, x8, x130000, x130001 => (world_World_Used.f x130000 x130001).bind fun bt134 => (if bt134.1 = x7 then ((world_World_Left.f x130000 bt134.2).bind fun bt136 => (ballcocklaw21_WorldCounts.j4 k x1 x5 x7 x8 (bt136.1 != (wrap64 ((x5.length : Int) - x7))) x130000 bt136.2)) else (ballcocklaw21_WorldCounts.j4 k x1 x5 x7 x8 true x130000 bt134.2))
def ballcocklaw21_WorldCounts.j4 : Nat → List Int → List Int → Int → Int → Bool → List Int → Int → Option (Bool)
  | 0, _, _, _, _, _, _, _ => none
  | k + 1, x1, x5, x7, x8, x60, x130000, x130001 => if x60 = true then (some false) else (ballcocklaw21_WorldCounts.l0 k x1 x5 x7 (wrap64 (x8 + 1)) x130000 x130001)
end
def ballcocklaw21_WorldCounts.f (k : Nat) (a0 : Int) (l1 : List Int) : Option (Bool) := (ballcocklaw21_awake.f k).bind fun t122 => (if t122 = true then (ballcocklaw21_WorldCounts.j0 k a0 l1 (decide ((l1.length : Int) > 60))) else (ballcocklaw21_WorldCounts.j0 k a0 l1 true))
theorem ballcocklaw21_WorldCounts.mono_l : ∀ k, (∀ y0 y1 y2, LeO (ballcocklaw21_WorldCounts.j0 k y0 y1 y2) (ballcocklaw21_WorldCounts.j0 (k + 1) y0 y1 y2)) ∧ (∀ y0 y1 y2 y3 y4 y5, LeO (ballcocklaw21_WorldCounts.l0 k y0 y1 y2 y3 y4 y5) (ballcocklaw21_WorldCounts.l0 (k + 1) y0 y1 y2 y3 y4 y5)) ∧ (∀ y0 y1 y2 y3 y4 y5 y6, LeO (ballcocklaw21_WorldCounts.j2 k y0 y1 y2 y3 y4 y5 y6) (ballcocklaw21_WorldCounts.j2 (k + 1) y0 y1 y2 y3 y4 y5 y6)) ∧ (∀ y0 y1 y2 y3 y4 y5, LeO (ballcocklaw21_WorldCounts.j3 k y0 y1 y2 y3 y4 y5) (ballcocklaw21_WorldCounts.j3 (k + 1) y0 y1 y2 y3 y4 y5)) ∧ (∀ y0 y1 y2 y3 y4 y5 y6, LeO (ballcocklaw21_WorldCounts.j4 k y0 y1 y2 y3 y4 y5 y6) (ballcocklaw21_WorldCounts.j4 (k + 1) y0 y1 y2 y3 y4 y5 y6))
  | 0 => ⟨fun _ _ _ r h => by simp [ballcocklaw21_WorldCounts.j0] at h, fun _ _ _ _ _ _ r h => by simp [ballcocklaw21_WorldCounts.l0] at h, fun _ _ _ _ _ _ _ r h => by simp [ballcocklaw21_WorldCounts.j2] at h, fun _ _ _ _ _ _ r h => by simp [ballcocklaw21_WorldCounts.j3] at h, fun _ _ _ _ _ _ _ r h => by simp [ballcocklaw21_WorldCounts.j4] at h⟩
  | k + 1 => by
    obtain ⟨ih0, ih1, ih2, ih3, ih4⟩ := ballcocklaw21_WorldCounts.mono_l k
    refine ⟨?_, ?_, ?_, ?_, ?_⟩
    · intro y0 y1 y2
      unfold ballcocklaw21_WorldCounts.j0
      repeat' first
      | (with_reducible exact ih0 _ _ _)
      | (with_reducible exact ih1 _ _ _ _ _ _)
      | (with_reducible exact ih2 _ _ _ _ _ _ _)
      | (with_reducible exact ih3 _ _ _ _ _ _)
      | (with_reducible exact ih4 _ _ _ _ _ _ _)
      | (with_reducible exact ballcocklaw21_awake.mono _)
      | (with_reducible exact world_World_Choose.mono _ _ _ _)
      | (with_reducible exact LeO.refl _)
      | (with_reducible exact LeO.none _)
      | (with_reducible refine LeO.ite ?_ ?_)
      | (with_reducible refine LeO.bind ?_ (fun _ => ?_))
      | exact ih0 _ _ _
      | exact ih1 _ _ _ _ _ _
      | exact ih2 _ _ _ _ _ _ _
      | exact ih3 _ _ _ _ _ _
      | exact ih4 _ _ _ _ _ _ _
      | exact ballcocklaw21_awake.mono _
      | exact world_World_Choose.mono _ _ _ _
      | exact LeO.none _
      | refine LeO.ite ?_ ?_
      | refine LeO.bind ?_ (fun _ => ?_)
    · intro y0 y1 y2 y3 y4 y5
      unfold ballcocklaw21_WorldCounts.l0
      repeat' first
      | (with_reducible exact ih0 _ _ _)
      | (with_reducible exact ih1 _ _ _ _ _ _)
      | (with_reducible exact ih2 _ _ _ _ _ _ _)
      | (with_reducible exact ih3 _ _ _ _ _ _)
      | (with_reducible exact ih4 _ _ _ _ _ _ _)
      | (with_reducible exact ballcocklaw21_awake.mono _)
      | (with_reducible exact world_World_Choose.mono _ _ _ _)
      | (with_reducible exact LeO.refl _)
      | (with_reducible exact LeO.none _)
      | (with_reducible refine LeO.ite ?_ ?_)
      | (with_reducible refine LeO.bind ?_ (fun _ => ?_))
      | exact ih0 _ _ _
      | exact ih1 _ _ _ _ _ _
      | exact ih2 _ _ _ _ _ _ _
      | exact ih3 _ _ _ _ _ _
      | exact ih4 _ _ _ _ _ _ _
      | exact ballcocklaw21_awake.mono _
      | exact world_World_Choose.mono _ _ _ _
      | exact LeO.none _
      | refine LeO.ite ?_ ?_
      | refine LeO.bind ?_ (fun _ => ?_)
    · intro y0 y1 y2 y3 y4 y5 y6
      unfold ballcocklaw21_WorldCounts.j2
      repeat' first
      | (with_reducible exact ih0 _ _ _)
      | (with_reducible exact ih1 _ _ _ _ _ _)
      | (with_reducible exact ih2 _ _ _ _ _ _ _)
      | (with_reducible exact ih3 _ _ _ _ _ _)
      | (with_reducible exact ih4 _ _ _ _ _ _ _)
      | (with_reducible exact ballcocklaw21_awake.mono _)
      | (with_reducible exact world_World_Choose.mono _ _ _ _)
      | (with_reducible exact LeO.refl _)
      | (with_reducible exact LeO.none _)
      | (with_reducible refine LeO.ite ?_ ?_)
      | (with_reducible refine LeO.bind ?_ (fun _ => ?_))
      | exact ih0 _ _ _
      | exact ih1 _ _ _ _ _ _
      | exact ih2 _ _ _ _ _ _ _
      | exact ih3 _ _ _ _ _ _
      | exact ih4 _ _ _ _ _ _ _
      | exact ballcocklaw21_awake.mono _
      | exact world_World_Choose.mono _ _ _ _
      | exact LeO.none _
      | refine LeO.ite ?_ ?_
      | refine LeO.bind ?_ (fun _ => ?_)
    · intro y0 y1 y2 y3 y4 y5
      unfold ballcocklaw21_WorldCounts.j3
      repeat' first
      | (with_reducible exact ih0 _ _ _)
      | (with_reducible exact ih1 _ _ _ _ _ _)
      | (with_reducible exact ih2 _ _ _ _ _ _ _)
      | (with_reducible exact ih3 _ _ _ _ _ _)
      | (with_reducible exact ih4 _ _ _ _ _ _ _)
      | (with_reducible exact ballcocklaw21_awake.mono _)
      | (with_reducible exact world_World_Choose.mono _ _ _ _)
      | (with_reducible exact LeO.refl _)
      | (with_reducible exact LeO.none _)
      | (with_reducible refine LeO.ite ?_ ?_)
      | (with_reducible refine LeO.bind ?_ (fun _ => ?_))
      | exact ih0 _ _ _
      | exact ih1 _ _ _ _ _ _
      | exact ih2 _ _ _ _ _ _ _
      | exact ih3 _ _ _ _ _ _
      | exact ih4 _ _ _ _ _ _ _
      | exact ballcocklaw21_awake.mono _
      | exact world_World_Choose.mono _ _ _ _
      | exact LeO.none _
      | refine LeO.ite ?_ ?_
      | refine LeO.bind ?_ (fun _ => ?_)
    · intro y0 y1 y2 y3 y4 y5 y6
      unfold ballcocklaw21_WorldCounts.j4
      repeat' first
      | (with_reducible exact ih0 _ _ _)
      | (with_reducible exact ih1 _ _ _ _ _ _)
      | (with_reducible exact ih2 _ _ _ _ _ _ _)
      | (with_reducible exact ih3 _ _ _ _ _ _)
      | (with_reducible exact ih4 _ _ _ _ _ _ _)
      | (with_reducible exact ballcocklaw21_awake.mono _)
      | (with_reducible exact world_World_Choose.mono _ _ _ _)
      | (with_reducible exact LeO.refl _)
      | (with_reducible exact LeO.none _)
      | (with_reducible refine LeO.ite ?_ ?_)
      | (with_reducible refine LeO.bind ?_ (fun _ => ?_))
      | exact ih0 _ _ _
      | exact ih1 _ _ _ _ _ _
      | exact ih2 _ _ _ _ _ _ _
      | exact ih3 _ _ _ _ _ _
      | exact ih4 _ _ _ _ _ _ _
      | exact ballcocklaw21_awake.mono _
      | exact world_World_Choose.mono _ _ _ _
      | exact LeO.none _
      | refine LeO.ite ?_ ?_
      | refine LeO.bind ?_ (fun _ => ?_)
theorem ballcocklaw21_WorldCounts.mono : ∀ a0 a1 k, LeO (ballcocklaw21_WorldCounts.f k a0 a1) (ballcocklaw21_WorldCounts.f (k + 1) a0 a1) := by
  intro a0 a1 k
  obtain ⟨ih0, ih1, ih2, ih3, ih4⟩ := ballcocklaw21_WorldCounts.mono_l k
  unfold ballcocklaw21_WorldCounts.f
  repeat' first
      | (with_reducible exact ih0 _ _ _)
      | (with_reducible exact ih1 _ _ _ _ _ _)
      | (with_reducible exact ih2 _ _ _ _ _ _ _)
      | (with_reducible exact ih3 _ _ _ _ _ _)
      | (with_reducible exact ih4 _ _ _ _ _ _ _)
      | (with_reducible exact ballcocklaw21_awake.mono _)
      | (with_reducible exact world_World_Choose.mono _ _ _ _)
      | (with_reducible exact LeO.refl _)
      | (with_reducible exact LeO.none _)
      | (with_reducible refine LeO.ite ?_ ?_)
      | (with_reducible refine LeO.bind ?_ (fun _ => ?_))
      | exact ih0 _ _ _
      | exact ih1 _ _ _ _ _ _
      | exact ih2 _ _ _ _ _ _ _
      | exact ih3 _ _ _ _ _ _
      | exact ih4 _ _ _ _ _ _ _
      | exact ballcocklaw21_awake.mono _
      | exact world_World_Choose.mono _ _ _ _
      | exact LeO.none _
      | refine LeO.ite ?_ ?_
      | refine LeO.bind ?_ (fun _ => ?_)
set_option maxHeartbeats 8000000 in
set_option maxRecDepth 100000 in
theorem ballcocklaw21_WorldCounts.calls (k : Nat) (a0 : Int) (A1 : Option Addr) (c1 : Nat) (l1 : List Int) (r : Bool) (w : World) (hr1 : Kd.C (Kd.int .i64) w A1 l1.length l1) (hc1 : l1.length ≤ c1) (hr_ : r = true) (h : ballcocklaw21_WorldCounts.f k a0 l1 = some r) :
    Calls Try.prog 6 #[.int .u8 a0, .slice A1 l1.length c1] w fun e w' => e = .returned (.bool r) ∧ Below w.heap.size w w' := by
  have HR1 := Aside0.mk hr1
  have HC1 := Aside0.mk hc1
  clear hr1 hc1
  have HB := Aside0.mk (Below.refl w.heap.size w)
  have H : ((ballcocklaw21_awake.f k).bind fun t122 => (if t122 = true then (ballcocklaw21_WorldCounts.j0 k a0 l1 (decide ((l1.length : Int) > 60))) else (ballcocklaw21_WorldCounts.j0 k a0 l1 true))) = some r := h
  clear h
  have HC3 := Aside0.mk H
  clear H
  go_enter Try.func6, Try.ntmps6
  go_upto_region 1 with (fail)
  go_cut [15] (fun v15 wc => ∃ (kq : Nat) (x15_2 : Bool), v15 = .bool x15_2 ∧ Aside0 (ballcocklaw21_WorldCounts.j0 kq a0 l1 x15_2 = some r) ∧ Aside0 (kq ≤ k) ∧ Aside0 (Below w.heap.size w wc))
  case first =>
    have H := HC3.out
    clear HC3
    replace H := Option.bind_eq_some_iff.mp H
    obtain ⟨t122, A40, H⟩ := H
    replace H : (if t122 = true then (ballcocklaw21_WorldCounts.j0 k a0 l1 (decide ((l1.length : Int) > 60))) else (ballcocklaw21_WorldCounts.j0 k a0 l1 true)) = some r := H
    have A4 := Aside0.mk A40
    clear A40
    by_cases c5 : t122 = true
    · subst c5
      have H1 : (ballcocklaw21_WorldCounts.j0 k a0 l1 (decide ((l1.length : Int) > 60))) = some r := by rw [if_pos rfl] at H; exact H
      clear H
      have H := H1
      clear H1
      have H' := Aside0.mk H
      clear H
      go_wp2_with (first | ((with_reducible refine gate_callee (f := 15) rfl ?_); refine goesL_ (some 9) rfl rfl Try.func15 (by kernel_rfl) rfl #[] rfl (by (try simp only [List.map_toArray, List.map_cons, List.map_nil]); first | done | rfl | (simp only [List.length_drop, List.length_take]; rfl)) ?_; (with_reducible refine (ballcocklaw21_awake.calls k  true _ A4.out).mono ?_); rintro e w6 ⟨rfl, hb⟩; refine ⟨_, rfl, ?_⟩; have n0_ := Aside0.mk (below_step (by repeat (first | (with_reducible first | exact HB.out | apply below_alloc | apply pw_below_drewN | apply below_drew1) | exact HB.out)) hb); clear HB; have HB := n0_; clear n0_; (try clear hb); (try clear hb2); (try clear hk); (try clear hi)))
      go_meet
      case rel => exact ⟨_, (decide ((l1.length : Int) > 60)), (by first | rfl | (simp; done) | (simp [*]; done)), H', ⟨by first | omega | exact Nat.le_refl _⟩, ⟨by repeat (first | (with_reducible first | exact HB.out | apply below_alloc | apply pw_below_drewN | apply below_drew1) | exact HB.out)⟩⟩
    · replace c5 := Bool.eq_false_iff.mpr c5
      subst c5
      have H1 : (ballcocklaw21_WorldCounts.j0 k a0 l1 true) = some r := by rw [if_neg (show ¬ (false = true) by decide)] at H; exact H
      clear H
      have H := H1
      clear H1
      have H' := Aside0.mk H
      clear H
      go_wp2_with (first | ((with_reducible refine gate_callee (f := 15) rfl ?_); refine goesL_ (some 9) rfl rfl Try.func15 (by kernel_rfl) rfl #[] rfl (by (try simp only [List.map_toArray, List.map_cons, List.map_nil]); first | done | rfl | (simp only [List.length_drop, List.length_take]; rfl)) ?_; (with_reducible refine (ballcocklaw21_awake.calls k  false _ A4.out).mono ?_); rintro e w7 ⟨rfl, hb⟩; refine ⟨_, rfl, ?_⟩; have n0_ := Aside0.mk (below_step (by repeat (first | (with_reducible first | exact HB.out | apply below_alloc | apply pw_below_drewN | apply below_drew1) | exact HB.out)) hb); clear HB; have HB := n0_; clear n0_; (try clear hb); (try clear hb2); (try clear hk); (try clear hi)))
      go_meet
      case rel => exact ⟨_, (true), (by first | rfl | (simp; done) | (simp [*]; done)), H', ⟨by first | omega | exact Nat.le_refl _⟩, ⟨by repeat (first | (with_reducible first | exact HB.out | apply below_alloc | apply pw_below_drewN | apply below_drew1) | exact HB.out)⟩⟩
  case rest =>
    clear HC3
    try clear c1
    try clear p2
    try clear c5
    try clear c6
    obtain ⟨kq, x15_2, rfl, HA, HJ2, HB⟩ := hcut
    cases kq with
    | zero => exact absurd HA.out (by simp [ballcocklaw21_WorldCounts.j0])
    | succ kj2 =>
      have H := HA.out
      clear HA
      simp only [ballcocklaw21_WorldCounts.j0] at H
      by_cases c8 : x15_2 = true
      · subst c8
        have H1 : ((ballcocklaw21_awake.f kj2).bind fun t123 => (some t123)) = some r := by rw [if_pos rfl] at H; exact H
        clear H
        have H := H1
        clear H1
        replace H := Option.bind_eq_some_iff.mp H
        obtain ⟨t123, A90, H⟩ := H
        replace H : (some t123) = some r := H
        have A9 := Aside0.mk A90
        clear A90
        obtain rfl := Option.some.inj H
        go_wp2_with (first | ((with_reducible refine gate_callee (f := 15) rfl ?_); refine goesL_ (some 16) rfl rfl Try.func15 (by kernel_rfl) rfl #[] rfl (by (try simp only [List.map_toArray, List.map_cons, List.map_nil]); first | done | rfl | (simp only [List.length_drop, List.length_take]; rfl)) ?_; (with_reducible refine (ballcocklaw21_awake.calls kj2  t123 _ A9.out).mono ?_); rintro e w10 ⟨rfl, hb⟩; refine ⟨_, rfl, ?_⟩; have n0_ := Aside0.mk (below_step (by repeat (first | (with_reducible first | exact HB.out | apply below_alloc | apply pw_below_drewN | apply below_drew1) | exact HB.out)) hb); clear HB; have HB := n0_; clear n0_; (try clear hb); (try clear hb2); (try clear hk); (try clear hi)))
        go_ret
        exact ⟨by first | rfl | (simp [errW_none, errW_some] <;> rfl) | (simp [*, errW_none, errW_some] <;> rfl), by repeat (first | (with_reducible first | exact HB.out | apply below_alloc | apply pw_below_drewN | apply below_drew1) | exact HB.out)⟩
      · replace c8 := Bool.eq_false_iff.mpr c8
        subst c8
        have H1 : (if 0 ≤ (wrap64 (a0)) then (if (wrap64 (a0) : Int).toNat ≤ 35184372088832 then ((some (List.replicate (wrap64 (a0) : Int).toNat 0 : List Int)).bind fun y124 => ((world_New.f y124).bind fun bt127 => (ballcocklaw21_WorldCounts.l0 kj2 l1 y124 0 0 bt127.1 bt127.2))) else (none)) else (none)) = some r := by rw [if_neg (show ¬ (false = true) by decide)] at H; exact H
        clear H
        have H := H1
        clear H1
        obtain ⟨ji11, hji11⟩ : ∃ j_ : Int, (wrap64 (a0)) = j_ := ⟨_, rfl⟩
        replace H : (if 0 ≤ (ji11) then (if (ji11 : Int).toNat ≤ 35184372088832 then ((some (List.replicate (ji11 : Int).toNat 0 : List Int)).bind fun y124 => ((world_New.f y124).bind fun bt127 => (ballcocklaw21_WorldCounts.l0 kj2 l1 y124 0 0 bt127.1 bt127.2))) else (none)) else (none)) = some r := by first | (rw [hji11] at H; exact H) | (simp only [hji11] at H ⊢; exact H)
        have hji11w : (IntKind.i64.wrap (a0)) = ji11 := (i64_w _).trans hji11
        by_cases c12 : 0 ≤ (ji11)
        · rw [if_pos c12] at H
          have c12b0 := eq_true c12
          have c12b1 : decide (0 ≤ (ji11)) = true := decide_eq_true c12
          clear c12
          by_cases c13 : (ji11 : Int).toNat ≤ 35184372088832
          · rw [if_pos c13] at H
            have c13b0 := eq_true c13
            have c13b1 : decide ((ji11 : Int).toNat ≤ 35184372088832) = true := decide_eq_true c13
            clear c13
            obtain ⟨y124, hy124⟩ : ∃ y_ : List Int, y_ = (List.replicate (ji11 : Int).toNat 0) := ⟨_, rfl⟩
            replace H : ((world_New.f y124).bind fun bt127 => (ballcocklaw21_WorldCounts.l0 kj2 l1 y124 0 0 bt127.1 bt127.2)) = some r := by first | (rw [hy124]; with_reducible exact H) | (have H2_ := (Option.bind_some _ _).symm.trans H; rw [hy124]; with_reducible exact H2_) | (have H2_ := (Option.bind_some _ _).symm.trans H; with_reducible exact H2_) | with_reducible exact H | (rw [hy124]; exact H) | exact H
            have Ny124 := Aside0.mk hy124
            clear hy124
            replace H := Option.bind_eq_some_iff.mp H
            obtain ⟨⟨t127, t128⟩, A140, H⟩ := H
            replace H : (ballcocklaw21_WorldCounts.l0 kj2 l1 y124 0 0 t127 t128) = some r := H
            have A14 := Aside0.mk A140
            clear A140
            have H' := Aside0.mk H
            clear H
            go_wp2_with (first | ((with_reducible refine gate_dst (N := 19) rfl ?_); (try (refine gate_guard (by rfl) ?_; dsimp only)); refine Kd.R_make (Kd.int .i64) _ 3 rfl (N := 19) rfl 22 _ _ rfl ji11 rfl rfl Try.underlying22 (.int .i64 0) 8 info3 rfl (by decide) (by omega) 0 (ok := fun _ => True) (okp := fun _ => True) rfl (fun _ hk => hk) trivial (of_decide_eq_true (by first | (with_reducible assumption) | assumption)) (Nat.le_trans (Nat.mul_le_mul_right _ (of_decide_eq_true (by first | (with_reducible assumption) | assumption) : ji11.toNat ≤ 35184372088832)) (by omega)) (Below.refl _ _) (Nat.le_refl _) ?_; intro v125 w15 ho16 hb hg_ hnew_; clear hg_ hnew_; (first | rw [← Ny124.out] at ho16 | (simp only [Int.reduceToNat] at ho16; rw [← Ny124.out] at ho16)); have n0_ := Aside0.mk (Kd.R_lower ho16 (below_size (by repeat (first | (with_reducible first | exact HB.out | apply below_alloc | apply pw_below_drewN | apply below_drew1) | exact HB.out)))); have n1_ := Aside0.mk (below_step (by repeat (first | (with_reducible first | exact HB.out | apply below_alloc | apply pw_below_drewN | apply below_drew1) | exact HB.out)) hb); clear HB; have HO126 := n0_; have HB := n1_; clear n0_ n1_; clear hb ho16; obtain ⟨Ao17, co17, eo17⟩ := Kd.R_slice HO126.out; subst eo17) | ((with_reducible refine gate_callee (f := 16) rfl ?_); refine goesL_ (some 21) rfl rfl Try.func16 (by kernel_rfl) rfl #[.slice Ao17 y124.length co17] rfl (by (try simp only [List.map_toArray, List.map_cons, List.map_nil]); first | done | rfl | (simp only [List.length_drop, List.length_take]; rfl)) ?_; (with_reducible refine (world_New.calls _ _ y124 t127 t128 w _ ?side1 ?side2 ?side3 A14.out).mono ?_); (case side1 => repeat (first | (with_reducible first | exact HB.out | apply below_alloc | apply pw_below_drewN | apply below_drew1) | exact HB.out)); (case side2 => repeat (first | exact (Kd.R_reads' HO126.out).2.2 | (with_reducible refine Kd.C_alloc ?_ _) | (with_reducible refine Kd.C_drewN ?_ _) | (with_reducible refine Kd.C_drew ?_))); (case side3 => exact (Kd.R_reads' HO126.out).2.1); rintro e w18 ⟨g129, rfl, hi, hb, hb2⟩; refine ⟨_, rfl, ?_⟩; have n0_ := Aside0.mk (Kd.R_below (by (with_reducible repeat (first | apply Kd.R_alloc | apply Kd.R_drewN | apply Kd.R_drew)); exact HO126.out) hb2); have n1_ := Aside0.mk (hb); have n2_ := Aside0.mk (hi); clear HO126; clear HB; have HO126 := n0_; have HB := n1_; have HI129 := n2_; clear n0_ n1_ n2_; (try clear hb); (try clear hb2); (try clear hk); (try clear hi)))
            go_loopg [7, 8] kj2 (fun kq v7 v8 w' => ∃ (x7_2 : Int) (x8_2 : Int) (x130001_2 : Int), v7 = .int .i64 x7_2 ∧ v8 = .int .i64 x8_2 ∧ Aside0 (ballcocklaw21_WorldCounts.l0 kq l1 y124 x7_2 x8_2 t127 x130001_2 = some r) ∧ Aside0 (kq ≤ kj2) ∧ Aside0 (Kd.R (Kd.int .i64) 3 w' w.heap.size (fun _ => True) (.slice Ao17 y124.length co17) y124) ∧ Aside0 (IsS86 w w' g129 t127 x130001_2) ∧ Aside0 (Below w.heap.size w w'))
            case atStart => exact ⟨(0), (0), (t128), (by first | rfl | (simp; done) | (simp [*]; done)), (by first | rfl | (simp; done) | (simp [*]; done)), H', ⟨Nat.le_refl _⟩, ⟨by (with_reducible repeat (first | apply Kd.R_alloc | apply Kd.R_drewN | apply Kd.R_drew)); exact HO126.out⟩, ⟨by repeat (first | (with_reducible first | exact HI129.out | apply IsS86.alloc | apply IsS86.drewN | apply IsS86.drew | apply IsS86.set_1) | exact HI129.out)⟩, ⟨by repeat (first | (with_reducible first | exact HB.out | apply below_alloc | apply pw_below_drewN | apply below_drew1 | refine below_set ?_ (IsS86.ge HI129.out)) | exact HB.out)⟩⟩
            case round =>
              clear H'
              try clear c1
              try clear p2
              try clear c5
              try clear c6
              try clear p6
              try clear c8
              try clear c12
              try clear c12b0
              try clear c12b1
              try clear c13
              try clear c13b0
              try clear c13b1
              try clear c15
              try clear c16
              try clear p2
              obtain ⟨x7_2, x8_2, x130001_2, rfl, rfl, HA, HK2, HO_5, HI129, HB⟩ := hrel
              cases gk with
              | zero => exact absurd HA.out (by simp [ballcocklaw21_WorldCounts.l0])
              | succ k2 =>
                have H := HA.out
                clear HA
                simp only [ballcocklaw21_WorldCounts.l0] at H
                by_cases c19 : x8_2 < (l1.length : Int)
                · rw [if_pos c19] at H
                  have c19b0 : decide (x8_2 < (l1.length : Int)) = true := decide_eq_true c19
                  clear c19
                  by_cases c20 : 0 ≤ x8_2
                  · rw [if_pos c20] at H
                    have c20b0 : decide (0 ≤ x8_2) = true := decide_eq_true c20
                    clear c20
                    replace H := Option.bind_eq_some_iff.mp H
                    obtain ⟨⟨t131, t132⟩, A210, H⟩ := H
                    replace H : (if t131 = 0 then (if (rd l1 x8_2) > 0 then (ballcocklaw21_WorldCounts.j2 k2 l1 y124 x7_2 x8_2 (decide (x7_2 < (y124.length : Int))) t127 t132) else (ballcocklaw21_WorldCounts.j2 k2 l1 y124 x7_2 x8_2 false t127 t132)) else (some false)) = some r := H
                    have A21 := Aside0.mk A210
                    clear A210
                    by_cases c22 : t131 = 0
                    · rw [if_pos c22] at H
                      have c22b0 : (t131 == 0) = true := beq_iff_eq.mpr c22
                      have c22b1 : (t131 != 0) = false := bne_eq_false_iff_eq.mpr c22
                      clear c22
                      have HC23 := Aside0.mk H
                      clear H
                      have p130 : 0 ≤ (x8_2 : Int) := of_decide_eq_true (by first | (with_reducible assumption) | assumption)
                      have q130 : x8_2 < (l1.length : Int) := of_decide_eq_true (by first | (with_reducible assumption) | assumption)
                      obtain ⟨ad130, e130, hx130_0⟩ := Kd.at_int HR1.out x8_2 p130 q130
                      cases e130
                      replace hx130_0 := (HB.out.cell (World.block_lt_of_cell? w _ hx130_0)).trans hx130_0
                      replace p130 := eq_true p130
                      replace q130 := eq_true q130
                      go_upto_region 11 with (first | ((with_reducible refine gate_callee (f := 17) rfl ?_); refine goesL_ (some 33) rfl rfl Try.func17 (by kernel_rfl) rfl #[.pointer (some ⟨g129, 0, none⟩), .int .i64 (rd l1 x8_2)] rfl (by (try simp only [List.map_toArray, List.map_cons, List.map_nil]); first | done | rfl | (simp only [List.length_drop, List.length_take]; rfl)) ?_; (with_reducible refine (world_World_Choose.calls k2 g129 t127 x130001_2 (rd l1 x8_2) t131 t132 w _ ?side1 ?side2 A21.out).mono ?_); (case side1 => repeat (first | (with_reducible first | exact HI129.out | apply IsS86.alloc | apply IsS86.drewN | apply IsS86.drew | apply IsS86.set_1) | exact HI129.out)); (case side2 => repeat (first | (with_reducible first | exact HB.out | apply below_alloc | apply pw_below_drewN | apply below_drew1 | refine below_set ?_ (IsS86.ge HI129.out)) | exact HB.out)); rintro e w24 ⟨rfl, hi, hb, hk⟩; refine ⟨_, rfl, ?_⟩; have n0_ := Aside0.mk (Kd.R_mono (Kd.R_keep (IsS86.apart (show IsS86 w _ g129 t127 x130001_2 from by repeat (first | (with_reducible first | exact HI129.out | apply IsS86.alloc | apply IsS86.drewN | apply IsS86.drew | apply IsS86.set_1) | exact HI129.out)) (by (with_reducible repeat (first | apply Kd.R_alloc | apply Kd.R_drewN | apply Kd.R_drew)); exact HO_5.out) (by decide)) hk (fun _ h => h.2)) (fun _ h => h.1)); have n1_ := Aside0.mk (hb); have n2_ := Aside0.mk (hi); clear HO_5; clear HB; clear HI129; have HO_5 := n0_; have HB := n1_; have HI129 := n2_; clear n0_ n1_ n2_; (try clear hb); (try clear hb2); (try clear hk); (try clear hi)))
                      (try simp only [Act.put, List.setIfInBounds_toArray, List.set_cons_zero, List.set_cons_succ])
                      go_cut [45] (fun v45 wc => ∃ (kq : Nat) (x45_22 : Bool), v45 = .bool x45_22 ∧ Aside0 (ballcocklaw21_WorldCounts.j2 kq l1 y124 x7_2 x8_2 x45_22 t127 t132 = some r) ∧ Aside0 (kq ≤ k2) ∧ Aside0 (Kd.R (Kd.int .i64) 3 wc w.heap.size (fun _ => True) (.slice Ao17 y124.length co17) y124) ∧ Aside0 (IsS86 w wc g129 t127 t132) ∧ Aside0 (Below w.heap.size w wc))
                      case first =>
                        have H := HC23.out
                        clear HC23
                        by_cases c25 : (rd l1 x8_2) > 0
                        · rw [if_pos c25] at H
                          have c25b0 : decide (0 < (rd l1 x8_2)) = true := decide_eq_true c25
                          clear c25
                          (first | rw [c25b0] | (simp only [i64_w, i32_w]; rw [c25b0]) | skip)
                          have H' := Aside0.mk H
                          clear H
                          have p133 : 0 ≤ (x8_2 : Int) := of_decide_eq_true (by first | (with_reducible assumption) | assumption)
                          have q133 : x8_2 < (l1.length : Int) := of_decide_eq_true (by first | (with_reducible assumption) | assumption)
                          obtain ⟨ad133, e133, hx133_0⟩ := Kd.at_int HR1.out x8_2 p133 q133
                          obtain rfl : ad130 = ad133 := (by injection e133)
                          replace hx133_0 := (HB.out.cell (World.block_lt_of_cell? w _ hx133_0)).trans hx133_0
                          replace p133 := eq_true p133
                          replace q133 := eq_true q133
                          go_wp2
                          go_meet
                          case rel => exact ⟨_, (decide (x7_2 < (y124.length : Int))), (by first | rfl | (simp; done) | (simp [*]; done)), H', ⟨by have := HJ2.out; have := HK2.out; first | omega | exact Nat.le_refl _⟩, ⟨by (with_reducible repeat (first | apply Kd.R_alloc | apply Kd.R_drewN | apply Kd.R_drew)); exact HO_5.out⟩, ⟨by repeat (first | (with_reducible first | exact HI129.out | apply IsS86.alloc | apply IsS86.drewN | apply IsS86.drew | apply IsS86.set_1) | exact HI129.out)⟩, ⟨by repeat (first | (with_reducible first | exact HB.out | apply below_alloc | apply pw_below_drewN | apply below_drew1 | refine below_set ?_ (IsS86.ge HI129.out)) | exact HB.out)⟩⟩
                        · rw [if_neg c25] at H
                          have c25b0 : decide (0 < (rd l1 x8_2)) = false := decide_eq_false c25
                          clear c25
                          (first | rw [c25b0] | (simp only [i64_w, i32_w]; rw [c25b0]) | skip)
                          have H' := Aside0.mk H
                          clear H
                          have p133 : 0 ≤ (x8_2 : Int) := of_decide_eq_true (by first | (with_reducible assumption) | assumption)
                          have q133 : x8_2 < (l1.length : Int) := of_decide_eq_true (by first | (with_reducible assumption) | assumption)
                          obtain ⟨ad133, e133, hx133_0⟩ := Kd.at_int HR1.out x8_2 p133 q133
                          obtain rfl : ad130 = ad133 := (by injection e133)
                          replace hx133_0 := (HB.out.cell (World.block_lt_of_cell? w _ hx133_0)).trans hx133_0
                          replace p133 := eq_true p133
                          replace q133 := eq_true q133
                          go_wp2
                          go_meet
                          case rel => exact ⟨_, (false), (by first | rfl | (simp; done) | (simp [*]; done)), H', ⟨by have := HJ2.out; have := HK2.out; first | omega | exact Nat.le_refl _⟩, ⟨by (with_reducible repeat (first | apply Kd.R_alloc | apply Kd.R_drewN | apply Kd.R_drew)); exact HO_5.out⟩, ⟨by repeat (first | (with_reducible first | exact HI129.out | apply IsS86.alloc | apply IsS86.drewN | apply IsS86.drew | apply IsS86.set_1) | exact HI129.out)⟩, ⟨by repeat (first | (with_reducible first | exact HB.out | apply below_alloc | apply pw_below_drewN | apply below_drew1 | refine below_set ?_ (IsS86.ge HI129.out)) | exact HB.out)⟩⟩
                      case rest =>
                        clear HC23
                        try clear c1
                        try clear p1
                        try clear q1
                        try clear hx1
                        try clear c2
                        try clear p2
                        try clear c5
                        try clear c6
                        try clear p6
                        try clear c8
                        try clear c12
                        try clear c12b0
                        try clear c12b1
                        try clear c13
                        try clear c13b0
                        try clear c13b1
                        try clear p13
                        try clear q13
                        try clear hx13
                        try clear c15
                        try clear c16
                        try clear c17
                        try clear c19
                        try clear c19b0
                        try clear c20
                        try clear c20b0
                        try clear c22
                        try clear c22b0
                        try clear c22b1
                        try clear c25
                        try clear c25b0
                        try clear hx130_0
                        try clear hx133_0
                        try clear p130
                        try clear p133
                        try clear p2
                        try clear p6
                        try clear q130
                        try clear q133
                        obtain ⟨kq, x45_22, rfl, HA, HJ22, HO_5, HI129, HB⟩ := hcut
                        cases kq with
                        | zero => exact absurd HA.out (by simp [ballcocklaw21_WorldCounts.j2])
                        | succ kj22 =>
                          have H := HA.out
                          clear HA
                          simp only [ballcocklaw21_WorldCounts.j2] at H
                          have HC26 := Aside0.mk H
                          clear H
                          go_upto_if 45 with (fail)
                          go_cut [7] (fun v7 wc => ∃ (kq : Nat) (x7_25 : Int), v7 = .int .i64 x7_25 ∧ Aside0 (ballcocklaw21_WorldCounts.j3 kq l1 y124 x7_25 x8_2 t127 t132 = some r) ∧ Aside0 (kq ≤ kj22) ∧ Aside0 (Kd.R (Kd.int .i64) 3 wc w.heap.size (fun _ => True) (.slice Ao17 y124.length co17) y124) ∧ Aside0 (IsS86 w wc g129 t127 t132) ∧ Aside0 (Below w.heap.size w wc))
                          case first =>
                            have H := HC26.out
                            clear HC26
                            by_cases c27 : x45_22 = true
                            · subst c27
                              have H1 : (ballcocklaw21_WorldCounts.j3 kj22 l1 y124 (wrap64 (x7_2 + 1)) x8_2 t127 t132) = some r := by rw [if_pos rfl] at H; exact H
                              clear H
                              have H := H1
                              clear H1
                              have H' := Aside0.mk H
                              clear H
                              go_wp2
                              go_meet
                              case rel => exact ⟨_, (wrap64 (x7_2 + 1)), (by first | rfl | (simp; done) | (simp [*]; done)), H', ⟨by have := HJ2.out; have := HK2.out; have := HJ22.out; first | omega | exact Nat.le_refl _⟩, ⟨by (with_reducible repeat (first | apply Kd.R_alloc | apply Kd.R_drewN | apply Kd.R_drew)); exact HO_5.out⟩, ⟨by repeat (first | (with_reducible first | exact HI129.out | apply IsS86.alloc | apply IsS86.drewN | apply IsS86.drew | apply IsS86.set_1) | exact HI129.out)⟩, ⟨by repeat (first | (with_reducible first | exact HB.out | apply below_alloc | apply pw_below_drewN | apply below_drew1 | refine below_set ?_ (IsS86.ge HI129.out)) | exact HB.out)⟩⟩
                            · replace c27 := Bool.eq_false_iff.mpr c27
                              subst c27
                              have H1 : (ballcocklaw21_WorldCounts.j3 kj22 l1 y124 x7_2 x8_2 t127 t132) = some r := by rw [if_neg (show ¬ (false = true) by decide)] at H; exact H
                              clear H
                              have H := H1
                              clear H1
                              have H' := Aside0.mk H
                              clear H
                              go_wp2
                              go_meet
                              case rel => exact ⟨_, (x7_2), (by first | rfl | (simp; done) | (simp [*]; done)), H', ⟨by have := HJ2.out; have := HK2.out; have := HJ22.out; first | omega | exact Nat.le_refl _⟩, ⟨by (with_reducible repeat (first | apply Kd.R_alloc | apply Kd.R_drewN | apply Kd.R_drew)); exact HO_5.out⟩, ⟨by repeat (first | (with_reducible first | exact HI129.out | apply IsS86.alloc | apply IsS86.drewN | apply IsS86.drew | apply IsS86.set_1) | exact HI129.out)⟩, ⟨by repeat (first | (with_reducible first | exact HB.out | apply below_alloc | apply pw_below_drewN | apply below_drew1 | refine below_set ?_ (IsS86.ge HI129.out)) | exact HB.out)⟩⟩
                          case rest =>
                            clear HC26
                            try clear c1
                            try clear p1
                            try clear q1
                            try clear hx1
                            try clear c2
                            try clear p2
                            try clear c5
                            try clear c6
                            try clear p6
                            try clear c8
                            try clear c12
                            try clear c12b0
                            try clear c12b1
                            try clear c13
                            try clear c13b0
                            try clear c13b1
                            try clear p13
                            try clear q13
                            try clear hx13
                            try clear c15
                            try clear c16
                            try clear c17
                            try clear c19
                            try clear c19b0
                            try clear c20
                            try clear c20b0
                            try clear c22
                            try clear c22b0
                            try clear c22b1
                            try clear c25
                            try clear c25b0
                            try clear c27
                            try clear hx130_0
                            try clear hx133_0
                            try clear p1
                            try clear p13
                            try clear p130
                            try clear p133
                            try clear p2
                            try clear p6
                            try clear q1
                            try clear q13
                            try clear q130
                            try clear q133
                            obtain ⟨kq, x7_25, rfl, HA, HJ25, HO_5, HI129, HB⟩ := hcut
                            cases kq with
                            | zero => exact absurd HA.out (by simp [ballcocklaw21_WorldCounts.j3])
                            | succ kj25 =>
                              have H := HA.out
                              clear HA
                              simp only [ballcocklaw21_WorldCounts.j3] at H
                              have HC28 := Aside0.mk H
                              clear H
                              go_upto_region 13 with (fail)
                              go_cut [60] (fun v60 wc => ∃ (kq : Nat) (x60_27 : Bool) (x130001_27 : Int), v60 = .bool x60_27 ∧ Aside0 (ballcocklaw21_WorldCounts.j4 kq l1 y124 x7_25 x8_2 x60_27 t127 x130001_27 = some r) ∧ Aside0 (kq ≤ kj25) ∧ Aside0 (Kd.R (Kd.int .i64) 3 wc w.heap.size (fun _ => True) (.slice Ao17 y124.length co17) y124) ∧ Aside0 (IsS86 w wc g129 t127 x130001_27) ∧ Aside0 (Below w.heap.size w wc))
                              case first =>
                                have H := HC28.out
                                clear HC28
                                replace H := Option.bind_eq_some_iff.mp H
                                obtain ⟨⟨t134, t135⟩, A290, H⟩ := H
                                replace H : (if t134 = x7_25 then ((world_World_Left.f t127 t135).bind fun bt136 => (ballcocklaw21_WorldCounts.j4 kj25 l1 y124 x7_25 x8_2 (bt136.1 != (wrap64 ((y124.length : Int) - x7_25))) t127 bt136.2)) else (ballcocklaw21_WorldCounts.j4 kj25 l1 y124 x7_25 x8_2 true t127 t135)) = some r := H
                                have A29 := Aside0.mk A290
                                clear A290
                                by_cases c30 : t134 = x7_25
                                · rw [if_pos c30] at H
                                  have c30b0 : (t134 == x7_25) = true := beq_iff_eq.mpr c30
                                  have c30b1 : (t134 != x7_25) = false := bne_eq_false_iff_eq.mpr c30
                                  clear c30
                                  (first | rw [c30b0] | (simp only [i64_w, i32_w]; rw [c30b0]) | skip)
                                  replace H := Option.bind_eq_some_iff.mp H
                                  obtain ⟨⟨t136, t137⟩, A310, H⟩ := H
                                  replace H : (ballcocklaw21_WorldCounts.j4 kj25 l1 y124 x7_25 x8_2 (t136 != (wrap64 ((y124.length : Int) - x7_25))) t127 t137) = some r := H
                                  have A31 := Aside0.mk A310
                                  clear A310
                                  have H' := Aside0.mk H
                                  clear H
                                  go_wp2_with (first | ((with_reducible refine gate_callee (f := 19) rfl ?_); refine goesL_ (some 49) rfl rfl Try.func19 (by kernel_rfl) rfl #[.pointer (some ⟨g129, 0, none⟩)] rfl (by (try simp only [List.map_toArray, List.map_cons, List.map_nil]); first | done | rfl | (simp only [List.length_drop, List.length_take]; rfl)) ?_; (with_reducible refine (world_World_Used.calls g129 t127 t132 t134 t135 w _ ?side1 ?side2 A29.out).mono ?_); (case side1 => repeat (first | (with_reducible first | exact HI129.out | apply IsS86.alloc | apply IsS86.drewN | apply IsS86.drew | apply IsS86.set_1) | exact HI129.out)); (case side2 => repeat (first | (with_reducible first | exact HB.out | apply below_alloc | apply pw_below_drewN | apply below_drew1 | refine below_set ?_ (IsS86.ge HI129.out)) | exact HB.out)); rintro e w32 ⟨rfl, hi, hb, hk⟩; refine ⟨_, rfl, ?_⟩; have n0_ := Aside0.mk (Kd.R_mono (Kd.R_keep (IsS86.apart (show IsS86 w _ g129 t127 t132 from by repeat (first | (with_reducible first | exact HI129.out | apply IsS86.alloc | apply IsS86.drewN | apply IsS86.drew | apply IsS86.set_1) | exact HI129.out)) (by (with_reducible repeat (first | apply Kd.R_alloc | apply Kd.R_drewN | apply Kd.R_drew)); exact HO_5.out) (by decide)) hk (fun _ h => h.2)) (fun _ h => h.1)); have n1_ := Aside0.mk (hb); have n2_ := Aside0.mk (hi); clear HO_5; clear HB; clear HI129; have HO_5 := n0_; have HB := n1_; have HI129 := n2_; clear n0_ n1_ n2_; (try clear hb); (try clear hb2); (try clear hk); (try clear hi)) | (go_at_call 20; (with_reducible refine (world_World_Left.calls g129 t127 t135 t136 t137 w _ ?side1 ?side2 A31.out).mono ?_); (case side1 => repeat (first | (with_reducible first | exact HI129.out | apply IsS86.alloc | apply IsS86.drewN | apply IsS86.drew | apply IsS86.set_1) | exact HI129.out)); (case side2 => repeat (first | (with_reducible first | exact HB.out | apply below_alloc | apply pw_below_drewN | apply below_drew1 | refine below_set ?_ (IsS86.ge HI129.out)) | exact HB.out)); rintro e w33 ⟨rfl, hi, hb, hk⟩; have n0_ := Aside0.mk (Kd.R_mono (Kd.R_keep (IsS86.apart (show IsS86 w _ g129 t127 t135 from by repeat (first | (with_reducible first | exact HI129.out | apply IsS86.alloc | apply IsS86.drewN | apply IsS86.drew | apply IsS86.set_1) | exact HI129.out)) (by (with_reducible repeat (first | apply Kd.R_alloc | apply Kd.R_drewN | apply Kd.R_drew)); exact HO_5.out) (by decide)) hk (fun _ h => h.2)) (fun _ h => h.1)); have n1_ := Aside0.mk (hb); have n2_ := Aside0.mk (hi); clear HO_5; clear HB; clear HI129; have HO_5 := n0_; have HB := n1_; have HI129 := n2_; clear n0_ n1_ n2_; (try clear hb); (try clear hb2); (try clear hk); (try clear hi)))
                                  go_meet
                                  case rel => exact ⟨_, ((t136 != (wrap64 ((y124.length : Int) - x7_25)))), (t137), (by first | rfl | (simp; done) | (simp [*]; done)), H', ⟨by have := HJ2.out; have := HK2.out; have := HJ22.out; have := HJ25.out; first | omega | exact Nat.le_refl _⟩, ⟨by (with_reducible repeat (first | apply Kd.R_alloc | apply Kd.R_drewN | apply Kd.R_drew)); exact HO_5.out⟩, ⟨by repeat (first | (with_reducible first | exact HI129.out | apply IsS86.alloc | apply IsS86.drewN | apply IsS86.drew | apply IsS86.set_1) | exact HI129.out)⟩, ⟨by repeat (first | (with_reducible first | exact HB.out | apply below_alloc | apply pw_below_drewN | apply below_drew1 | refine below_set ?_ (IsS86.ge HI129.out)) | exact HB.out)⟩⟩
                                · rw [if_neg c30] at H
                                  have c30b0 : (t134 == x7_25) = false := beq_eq_false_iff_ne.mpr c30
                                  have c30b1 : (t134 != x7_25) = true := bne_iff_ne.mpr c30
                                  (first | rw [c30b0] | (simp only [i64_w, i32_w]; rw [c30b0]) | skip)
                                  have H' := Aside0.mk H
                                  clear H
                                  go_wp2_with (first | ((with_reducible refine gate_callee (f := 19) rfl ?_); refine goesL_ (some 49) rfl rfl Try.func19 (by kernel_rfl) rfl #[.pointer (some ⟨g129, 0, none⟩)] rfl (by (try simp only [List.map_toArray, List.map_cons, List.map_nil]); first | done | rfl | (simp only [List.length_drop, List.length_take]; rfl)) ?_; (with_reducible refine (world_World_Used.calls g129 t127 t132 t134 t135 w _ ?side1 ?side2 A29.out).mono ?_); (case side1 => repeat (first | (with_reducible first | exact HI129.out | apply IsS86.alloc | apply IsS86.drewN | apply IsS86.drew | apply IsS86.set_1) | exact HI129.out)); (case side2 => repeat (first | (with_reducible first | exact HB.out | apply below_alloc | apply pw_below_drewN | apply below_drew1 | refine below_set ?_ (IsS86.ge HI129.out)) | exact HB.out)); rintro e w34 ⟨rfl, hi, hb, hk⟩; refine ⟨_, rfl, ?_⟩; have n0_ := Aside0.mk (Kd.R_mono (Kd.R_keep (IsS86.apart (show IsS86 w _ g129 t127 t132 from by repeat (first | (with_reducible first | exact HI129.out | apply IsS86.alloc | apply IsS86.drewN | apply IsS86.drew | apply IsS86.set_1) | exact HI129.out)) (by (with_reducible repeat (first | apply Kd.R_alloc | apply Kd.R_drewN | apply Kd.R_drew)); exact HO_5.out) (by decide)) hk (fun _ h => h.2)) (fun _ h => h.1)); have n1_ := Aside0.mk (hb); have n2_ := Aside0.mk (hi); clear HO_5; clear HB; clear HI129; have HO_5 := n0_; have HB := n1_; have HI129 := n2_; clear n0_ n1_ n2_; (try clear hb); (try clear hb2); (try clear hk); (try clear hi)))
                                  go_meet
                                  case rel => exact ⟨_, (true), (t135), (by first | rfl | (simp; done) | (simp [*]; done)), H', ⟨by have := HJ2.out; have := HK2.out; have := HJ22.out; have := HJ25.out; first | omega | exact Nat.le_refl _⟩, ⟨by (with_reducible repeat (first | apply Kd.R_alloc | apply Kd.R_drewN | apply Kd.R_drew)); exact HO_5.out⟩, ⟨by repeat (first | (with_reducible first | exact HI129.out | apply IsS86.alloc | apply IsS86.drewN | apply IsS86.drew | apply IsS86.set_1) | exact HI129.out)⟩, ⟨by repeat (first | (with_reducible first | exact HB.out | apply below_alloc | apply pw_below_drewN | apply below_drew1 | refine below_set ?_ (IsS86.ge HI129.out)) | exact HB.out)⟩⟩
                              case rest =>
                                clear HC28
                                try clear c1
                                try clear p1
                                try clear q1
                                try clear hx1
                                try clear c2
                                try clear p2
                                try clear c3
                                try clear c5
                                try clear c6
                                try clear p6
                                try clear c8
                                try clear c12
                                try clear c12b0
                                try clear c12b1
                                try clear c13
                                try clear c13b0
                                try clear c13b1
                                try clear p13
                                try clear q13
                                try clear hx13
                                try clear c15
                                try clear c16
                                try clear c17
                                try clear c19
                                try clear c19b0
                                try clear c20
                                try clear c20b0
                                try clear c22
                                try clear c22b0
                                try clear c22b1
                                try clear c25
                                try clear c25b0
                                try clear c27
                                try clear c30
                                try clear c30b0
                                try clear c30b1
                                try clear hx130_0
                                try clear hx133_0
                                try clear p1
                                try clear p13
                                try clear p130
                                try clear p133
                                try clear p2
                                try clear p6
                                try clear q1
                                try clear q13
                                try clear q130
                                try clear q133
                                obtain ⟨kq, x60_27, x130001_27, rfl, HA, HJ27, HO_5, HI129, HB⟩ := hcut
                                cases kq with
                                | zero => exact absurd HA.out (by simp [ballcocklaw21_WorldCounts.j4])
                                | succ kj27 =>
                                  have H := HA.out
                                  clear HA
                                  simp only [ballcocklaw21_WorldCounts.j4] at H
                                  by_cases c35 : x60_27 = true
                                  · subst c35
                                    have H1 : (some false) = some r := by rw [if_pos rfl] at H; exact H
                                    clear H
                                    have H := H1
                                    clear H1
                                    subst hr_
                                    exact absurd H (by simp)
                                  · replace c35 := Bool.eq_false_iff.mpr c35
                                    subst c35
                                    have H1 : (ballcocklaw21_WorldCounts.l0 kj27 l1 y124 x7_25 (wrap64 (x8_2 + 1)) t127 x130001_27) = some r := by rw [if_neg (show ¬ (false = true) by decide)] at H; exact H
                                    clear H
                                    have H := H1
                                    clear H1
                                    have H' := Aside0.mk H
                                    clear H
                                    go_wp2
                                    go_roundg kj27
                                    case measure => have := HJ2.out; have := HK2.out; have := HJ22.out; have := HJ25.out; have := HJ27.out; omega
                                    case rel => exact ⟨(x7_25), (wrap64 (x8_2 + 1)), (x130001_27), (by first | rfl | (simp; done) | (simp [*]; done)), (by first | rfl | (simp; done) | (simp [*]; done)), H', ⟨by have := HJ2.out; have := HK2.out; have := HJ22.out; have := HJ25.out; have := HJ27.out; omega⟩, ⟨by (with_reducible repeat (first | apply Kd.R_alloc | apply Kd.R_drewN | apply Kd.R_drew)); exact HO_5.out⟩, ⟨by repeat (first | (with_reducible first | exact HI129.out | apply IsS86.alloc | apply IsS86.drewN | apply IsS86.drew | apply IsS86.set_1) | exact HI129.out)⟩, ⟨by repeat (first | (with_reducible first | exact HB.out | apply below_alloc | apply pw_below_drewN | apply below_drew1 | refine below_set ?_ (IsS86.ge HI129.out)) | exact HB.out)⟩⟩
                    · rw [if_neg c22] at H
                      have c22b0 : (t131 == 0) = false := beq_eq_false_iff_ne.mpr c22
                      have c22b1 : (t131 != 0) = true := bne_iff_ne.mpr c22
                      subst hr_
                      exact absurd H (by simp)
                  · rw [if_neg c20] at H
                    exact absurd H (by simp)
                · rw [if_neg c19] at H
                  have c19b0 : decide (x8_2 < (l1.length : Int)) = false := decide_eq_false c19
                  clear c19
                  obtain rfl := Option.some.inj H
                  go_wp2
                  go_ret
                  exact ⟨by first | rfl | (simp [errW_none, errW_some] <;> rfl) | (simp only [← hji11]; first | rfl | (simp [errW_none, errW_some] <;> rfl)) | (simp [*, errW_none, errW_some] <;> rfl), by repeat (first | (with_reducible first | exact HB.out | apply below_alloc | apply pw_below_drewN | apply below_drew1 | refine below_set ?_ (IsS86.ge HI129.out)) | exact HB.out)⟩
          · rw [if_neg c13] at H
            exact absurd H (by simp)
        · rw [if_neg c12] at H
          exact absurd H (by simp)

/-- THE ONE PURE STATEMENT of ballcocklaw21_WorldCounts: yours. -/
def ballcocklaw21_WorldCounts.Pure : Prop := ∀ (a0 : Int) (l1 : List Int), (Lit.int .u8 a0).wf = true → l1.length ≤ maxLen → l1.length * 8 ≤ 140737488351232 → (∀ x ∈ l1, (Lit.int .i64 x).wf = true) → ∃ k, ballcocklaw21_WorldCounts.f k a0 l1 = some true
theorem ballcocklaw21_WorldCounts.walk (P : ballcocklaw21_WorldCounts.Pure) (a0 : Int) (a1 : Option Addr) (len1 cap1 : Nat) (z1 : List Int) (w : World) (w0 : (Lit.int .u8 a0).wf = true) (w1 : (a1 = none ∧ len1 = 0 ∧ cap1 = 0 ∧ z1 = []) ∨ ∃ x, a1 = some x ∧ len1 ≤ cap1 ∧ cap1 ≤ maxLen ∧ z1.length = cap1 ∧ (∀ i, i < z1.length → w.cell? (x.add i) = some (.int .i64 (z1.getD i 0))) ∧ ∀ n ∈ z1, (Lit.int .i64 n).wf = true) (y1 : len1 * 8 ≤ 140737488351232) :
    Calls Try.prog 6 #[.int .u8 a0, .slice a1 len1 cap1] w fun e w' => e = .returned (.bool true) ∧ Below w.heap.size w w' := by
  obtain ⟨l1, rfl, hr1, hm1, hw1, hc1⟩ := ReadsInt.ofRowC w1
  obtain ⟨k, h⟩ := P a0 l1 w0 hm1 y1 hw1
  refine (ballcocklaw21_WorldCounts.calls k a0 _ _ l1 true w (Kd.C_of_reads (d := (0 : Int)) (h1 := fun _ => rfl) hr1) hc1 rfl h).mono ?_
  rintro e w' ⟨rfl, hd⟩
  exact ⟨rfl, hd⟩

end Go.Proofs.Ytbnligfjcmmjpaa.PWfWorldCounts
