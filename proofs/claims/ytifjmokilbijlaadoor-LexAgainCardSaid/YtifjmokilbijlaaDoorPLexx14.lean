-- Written by a program of this session (wip/myprint.py).
import Derived.Test.YtifjmokilbijlaaDoorPLexx0
import Derived.Test.YtifjmokilbijlaaDoorPLexx1
import Derived.Test.YtifjmokilbijlaaDoorPLexx3
import Derived.Test.YtifjmokilbijlaaDoorPLexx7
import Derived.Test.YtifjmokilbijlaaDoorPLexx9
namespace Go.Proofs.YtifjmokilbijlaaDoor.PLex
open Go.RowKit Go.Proofs.YtifjmokilbijlaaDoorW.PrintWords Go.Proofs.YtifjmokilbijlaaDoorW.PrintLast Go.Proofs.YtifjmokilbijlaaDoorW.PrintMore
attribute [local go_sem] max2_int min2_int max_two min_two max_three min_three max_four min_four   -- for this text's walks alone
set_option linter.unusedVariables false
set_option linter.unusedSimpArgs false

attribute [local go_sem high] eqA26
/-! ### ballcocklaw05_LexAgain: function 5 -/
mutual
def ballcocklaw05_LexAgain.j0 : Nat → ByteArray → Bool → Bool → Option (Bool)
  | 0, _, _, _ => none
  | k + 1, x0, x1, x18 => if x18 = true then ((ballcocklaw05_awake.f).bind fun t187 => (some t187)) else ((ballcockref05_Tokens.f k x0).bind fun bt188 => (if bt188.2.1 = 0 then (ballcocklaw05_LexAgain.l0 k x1 bt188.1 (⟨#[]⟩ : ByteArray) 0) else (some true)))
def ballcocklaw05_LexAgain.l0 : Nat → Bool → List (S32) → ByteArray → Int → Option (Bool)
  | 0, _, _, _, _ => none
  | k + 1, x1, x5, x7, x8 => if x8 < (wrap64 ((x5.length : Int) - 1)) then (if 0 ≤ x8 then (if x8 < (x5.length : Int) then (if x7.size + ((rd_T32 x5 x8).f1).size ≤ 9223372036854775807 then (if x1 = true then (if (x7 ++ ((rd_T32 x5 x8).f1)).size + 4 ≤ 9223372036854775807 then (ballcocklaw05_LexAgain.l0 k x1 x5 ((x7 ++ ((rd_T32 x5 x8).f1)) ++ (⟨#[35, 32, 120, 10]⟩ : ByteArray)) (wrap64 (x8 + 1))) else (none)) else (if (x7 ++ ((rd_T32 x5 x8).f1)).size + 1 ≤ 9223372036854775807 then (ballcocklaw05_LexAgain.l0 k x1 x5 ((x7 ++ ((rd_T32 x5 x8).f1)) ++ (⟨#[32]⟩ : ByteArray)) (wrap64 (x8 + 1))) else (none))) else (none)) else (none)) else (none)) else (if (x7.size : Int) > 6000 then (some true) else ((lex_Tokens.f x7).bind fun bt195 => (if (!(bt195.2.1 == 0) || (!(bt195.2.2 == 0))) = true then (ballcocklaw05_LexAgain.j2 k x5 bt195.1 true) else (ballcocklaw05_LexAgain.j2 k x5 bt195.1 ((bt195.1.length : Int) != (x5.length : Int))))))
def ballcocklaw05_LexAgain.j2 : Nat → List (S32) → List (S32) → Bool → Option (Bool)
  | 0, _, _, _ => none
  | k + 1, x5, x9, x64 => if x64 = true then (some false) else (ballcocklaw05_LexAgain.l1 k x5 x9 0)
def ballcocklaw05_LexAgain.l1 : Nat → List (S32) → List (S32) → Int → Option (Bool)
  | 0, _, _, _ => none
  | k + 1, x5, x9, x11 => if x11 < (x5.length : Int) then (if 0 ≤ x11 then (if x11 < (x9.length : Int) then (if ((rd_T32 x9 x11).f0) = ((rd_T32 x5 x11).f0) then (ballcocklaw05_LexAgain.j4 k x5 x9 x11 (((rd_T32 x9 x11).f1).toList != ((rd_T32 x5 x11).f1).toList)) else (ballcocklaw05_LexAgain.j4 k x5 x9 x11 true)) else (none)) else (none)) else (some true)
def ballcocklaw05_LexAgain.j4 : Nat → List (S32) → List (S32) → Int → Bool → Option (Bool)
  | 0, _, _, _, _ => none
  | k + 1, x5, x9, x11, x94 => if x94 = true then (some false) else (ballcocklaw05_LexAgain.l1 k x5 x9 (wrap64 (x11 + 1)))
end
def ballcocklaw05_LexAgain.f (k : Nat) (a0 : ByteArray) (a1 : Bool) : Option (Bool) := (ballcocklaw05_awake.f).bind fun t186 => (if t186 = true then (ballcocklaw05_LexAgain.j0 k a0 a1 (decide ((a0.size : Int) > 2000))) else (ballcocklaw05_LexAgain.j0 k a0 a1 true))
theorem ballcocklaw05_LexAgain.mono_l : ∀ k, (∀ y0 y1 y2, LeO (ballcocklaw05_LexAgain.j0 k y0 y1 y2) (ballcocklaw05_LexAgain.j0 (k + 1) y0 y1 y2)) ∧ (∀ y0 y1 y2 y3, LeO (ballcocklaw05_LexAgain.l0 k y0 y1 y2 y3) (ballcocklaw05_LexAgain.l0 (k + 1) y0 y1 y2 y3)) ∧ (∀ y0 y1 y2, LeO (ballcocklaw05_LexAgain.j2 k y0 y1 y2) (ballcocklaw05_LexAgain.j2 (k + 1) y0 y1 y2)) ∧ (∀ y0 y1 y2, LeO (ballcocklaw05_LexAgain.l1 k y0 y1 y2) (ballcocklaw05_LexAgain.l1 (k + 1) y0 y1 y2)) ∧ (∀ y0 y1 y2 y3, LeO (ballcocklaw05_LexAgain.j4 k y0 y1 y2 y3) (ballcocklaw05_LexAgain.j4 (k + 1) y0 y1 y2 y3))
  | 0 => ⟨fun _ _ _ r h => by simp [ballcocklaw05_LexAgain.j0] at h, fun _ _ _ _ r h => by simp [ballcocklaw05_LexAgain.l0] at h, fun _ _ _ r h => by simp [ballcocklaw05_LexAgain.j2] at h, fun _ _ _ r h => by simp [ballcocklaw05_LexAgain.l1] at h, fun _ _ _ _ r h => by simp [ballcocklaw05_LexAgain.j4] at h⟩
  | k + 1 => by
    obtain ⟨ih0, ih1, ih2, ih3, ih4⟩ := ballcocklaw05_LexAgain.mono_l k
    refine ⟨?_, ?_, ?_, ?_, ?_⟩
    · intro y0 y1 y2
      unfold ballcocklaw05_LexAgain.j0
      repeat' first
      | (with_reducible exact ih0 _ _ _)
      | (with_reducible exact ih1 _ _ _ _)
      | (with_reducible exact ih2 _ _ _)
      | (with_reducible exact ih3 _ _ _)
      | (with_reducible exact ih4 _ _ _ _)
      | (with_reducible exact ballcockref05_Tokens.mono _ _)
      | (with_reducible exact LeO.refl _)
      | (with_reducible exact LeO.none _)
      | (with_reducible refine LeO.ite ?_ ?_)
      | (with_reducible refine LeO.bind ?_ (fun _ => ?_))
      | exact ih0 _ _ _
      | exact ih1 _ _ _ _
      | exact ih2 _ _ _
      | exact ih3 _ _ _
      | exact ih4 _ _ _ _
      | exact ballcockref05_Tokens.mono _ _
      | exact LeO.none _
      | refine LeO.ite ?_ ?_
      | refine LeO.bind ?_ (fun _ => ?_)
    · intro y0 y1 y2 y3
      unfold ballcocklaw05_LexAgain.l0
      repeat' first
      | (with_reducible exact ih0 _ _ _)
      | (with_reducible exact ih1 _ _ _ _)
      | (with_reducible exact ih2 _ _ _)
      | (with_reducible exact ih3 _ _ _)
      | (with_reducible exact ih4 _ _ _ _)
      | (with_reducible exact ballcockref05_Tokens.mono _ _)
      | (with_reducible exact LeO.refl _)
      | (with_reducible exact LeO.none _)
      | (with_reducible refine LeO.ite ?_ ?_)
      | (with_reducible refine LeO.bind ?_ (fun _ => ?_))
      | exact ih0 _ _ _
      | exact ih1 _ _ _ _
      | exact ih2 _ _ _
      | exact ih3 _ _ _
      | exact ih4 _ _ _ _
      | exact ballcockref05_Tokens.mono _ _
      | exact LeO.none _
      | refine LeO.ite ?_ ?_
      | refine LeO.bind ?_ (fun _ => ?_)
    · intro y0 y1 y2
      unfold ballcocklaw05_LexAgain.j2
      repeat' first
      | (with_reducible exact ih0 _ _ _)
      | (with_reducible exact ih1 _ _ _ _)
      | (with_reducible exact ih2 _ _ _)
      | (with_reducible exact ih3 _ _ _)
      | (with_reducible exact ih4 _ _ _ _)
      | (with_reducible exact ballcockref05_Tokens.mono _ _)
      | (with_reducible exact LeO.refl _)
      | (with_reducible exact LeO.none _)
      | (with_reducible refine LeO.ite ?_ ?_)
      | (with_reducible refine LeO.bind ?_ (fun _ => ?_))
      | exact ih0 _ _ _
      | exact ih1 _ _ _ _
      | exact ih2 _ _ _
      | exact ih3 _ _ _
      | exact ih4 _ _ _ _
      | exact ballcockref05_Tokens.mono _ _
      | exact LeO.none _
      | refine LeO.ite ?_ ?_
      | refine LeO.bind ?_ (fun _ => ?_)
    · intro y0 y1 y2
      unfold ballcocklaw05_LexAgain.l1
      repeat' first
      | (with_reducible exact ih0 _ _ _)
      | (with_reducible exact ih1 _ _ _ _)
      | (with_reducible exact ih2 _ _ _)
      | (with_reducible exact ih3 _ _ _)
      | (with_reducible exact ih4 _ _ _ _)
      | (with_reducible exact ballcockref05_Tokens.mono _ _)
      | (with_reducible exact LeO.refl _)
      | (with_reducible exact LeO.none _)
      | (with_reducible refine LeO.ite ?_ ?_)
      | (with_reducible refine LeO.bind ?_ (fun _ => ?_))
      | exact ih0 _ _ _
      | exact ih1 _ _ _ _
      | exact ih2 _ _ _
      | exact ih3 _ _ _
      | exact ih4 _ _ _ _
      | exact ballcockref05_Tokens.mono _ _
      | exact LeO.none _
      | refine LeO.ite ?_ ?_
      | refine LeO.bind ?_ (fun _ => ?_)
    · intro y0 y1 y2 y3
      unfold ballcocklaw05_LexAgain.j4
      repeat' first
      | (with_reducible exact ih0 _ _ _)
      | (with_reducible exact ih1 _ _ _ _)
      | (with_reducible exact ih2 _ _ _)
      | (with_reducible exact ih3 _ _ _)
      | (with_reducible exact ih4 _ _ _ _)
      | (with_reducible exact ballcockref05_Tokens.mono _ _)
      | (with_reducible exact LeO.refl _)
      | (with_reducible exact LeO.none _)
      | (with_reducible refine LeO.ite ?_ ?_)
      | (with_reducible refine LeO.bind ?_ (fun _ => ?_))
      | exact ih0 _ _ _
      | exact ih1 _ _ _ _
      | exact ih2 _ _ _
      | exact ih3 _ _ _
      | exact ih4 _ _ _ _
      | exact ballcockref05_Tokens.mono _ _
      | exact LeO.none _
      | refine LeO.ite ?_ ?_
      | refine LeO.bind ?_ (fun _ => ?_)
theorem ballcocklaw05_LexAgain.mono : ∀ a0 a1 k, LeO (ballcocklaw05_LexAgain.f k a0 a1) (ballcocklaw05_LexAgain.f (k + 1) a0 a1) := by
  intro a0 a1 k
  obtain ⟨ih0, ih1, ih2, ih3, ih4⟩ := ballcocklaw05_LexAgain.mono_l k
  unfold ballcocklaw05_LexAgain.f
  repeat' first
      | (with_reducible exact ih0 _ _ _)
      | (with_reducible exact ih1 _ _ _ _)
      | (with_reducible exact ih2 _ _ _)
      | (with_reducible exact ih3 _ _ _)
      | (with_reducible exact ih4 _ _ _ _)
      | (with_reducible exact ballcockref05_Tokens.mono _ _)
      | (with_reducible exact LeO.refl _)
      | (with_reducible exact LeO.none _)
      | (with_reducible refine LeO.ite ?_ ?_)
      | (with_reducible refine LeO.bind ?_ (fun _ => ?_))
      | exact ih0 _ _ _
      | exact ih1 _ _ _ _
      | exact ih2 _ _ _
      | exact ih3 _ _ _
      | exact ih4 _ _ _ _
      | exact ballcockref05_Tokens.mono _ _
      | exact LeO.none _
      | refine LeO.ite ?_ ?_
      | refine LeO.bind ?_ (fun _ => ?_)
set_option maxHeartbeats 8000000 in
set_option maxRecDepth 100000 in
theorem ballcocklaw05_LexAgain.calls (k : Nat) (a0 : ByteArray) (a1 : Bool) (r : Bool) (w : World) (hr_ : r = true) (h : ballcocklaw05_LexAgain.f k a0 a1 = some r) :
    Calls Tryd.prog 5 #[.string a0, .bool a1] w fun e w' => e = .returned (.bool r) ∧ Below w.heap.size w w' := by
  have hu26 := Tryd.underlying26
  have HB := Aside0.mk (Below.refl w.heap.size w)
  have H : ((ballcocklaw05_awake.f).bind fun t186 => (if t186 = true then (ballcocklaw05_LexAgain.j0 k a0 a1 (decide ((a0.size : Int) > 2000))) else (ballcocklaw05_LexAgain.j0 k a0 a1 true))) = some r := h
  clear h
  have HC3 := Aside0.mk H
  clear H
  go_enter Tryd.func5, Tryd.ntmps5
  go_upto_region 1 with (fail)
  repeat (go_quiet (fail); go_upto_region 1 with (fail))
  go_cut [18] (fun v18 wc => ∃ (kq : Nat) (x18_2 : Bool), v18 = .bool x18_2 ∧ Aside0 (ballcocklaw05_LexAgain.j0 kq a0 a1 x18_2 = some r) ∧ Aside0 (kq ≤ k) ∧ Aside0 (Below w.heap.size w wc))
  case first =>
    have H := HC3.out
    clear HC3
    replace H := Option.bind_eq_some_iff.mp H
    obtain ⟨t186, A40, H⟩ := H
    replace H : (if t186 = true then (ballcocklaw05_LexAgain.j0 k a0 a1 (decide ((a0.size : Int) > 2000))) else (ballcocklaw05_LexAgain.j0 k a0 a1 true)) = some r := H
    have A4 := Aside0.mk A40
    clear A40
    by_cases c5 : t186 = true
    · subst c5
      have H1 : (ballcocklaw05_LexAgain.j0 k a0 a1 (decide ((a0.size : Int) > 2000))) = some r := by rw [if_pos rfl] at H; exact H
      clear H
      have H := H1
      clear H1
      have H' := Aside0.mk H
      clear H
      go_wp2_with (first | (go_at_call 13; (with_reducible refine (ballcocklaw05_awake.calls  true _ A4.out).mono ?_); rintro e w6 ⟨rfl, hb⟩; have n0_ := Aside0.mk (below_step (by repeat (first | (with_reducible first | exact HB.out | apply below_alloc | apply pw_below_drewN | apply below_drew1) | exact HB.out)) hb); clear HB; have HB := n0_; clear n0_; (try clear hb); (try clear hb2); (try clear hk); (try clear hi)))
      repeat (go_quiet (first | (go_at_call 13; (with_reducible refine (ballcocklaw05_awake.calls  true _ A4.out).mono ?_); rintro e w6 ⟨rfl, hb⟩; have n0_ := Aside0.mk (below_step (by repeat (first | (with_reducible first | exact HB.out | apply below_alloc | apply pw_below_drewN | apply below_drew1) | exact HB.out)) hb); clear HB; have HB := n0_; clear n0_; (try clear hb); (try clear hb2); (try clear hk); (try clear hi))); try go_wp2_with (first | (go_at_call 13; (with_reducible refine (ballcocklaw05_awake.calls  true _ A4.out).mono ?_); rintro e w6 ⟨rfl, hb⟩; have n0_ := Aside0.mk (below_step (by repeat (first | (with_reducible first | exact HB.out | apply below_alloc | apply pw_below_drewN | apply below_drew1) | exact HB.out)) hb); clear HB; have HB := n0_; clear n0_; (try clear hb); (try clear hb2); (try clear hk); (try clear hi))))
      go_meet
      case rel => exact ⟨_, (decide ((a0.size : Int) > 2000)), (by first | rfl | (simp; done) | (simp [*]; done)), H', ⟨by first | omega | exact Nat.le_refl _⟩, ⟨by repeat (first | (with_reducible first | exact HB.out | apply below_alloc | apply pw_below_drewN | apply below_drew1) | exact HB.out)⟩⟩
    · replace c5 := Bool.eq_false_iff.mpr c5
      subst c5
      have H1 : (ballcocklaw05_LexAgain.j0 k a0 a1 true) = some r := by rw [if_neg (show ¬ (false = true) by decide)] at H; exact H
      clear H
      have H := H1
      clear H1
      have H' := Aside0.mk H
      clear H
      go_wp2_with (first | (go_at_call 13; (with_reducible refine (ballcocklaw05_awake.calls  false _ A4.out).mono ?_); rintro e w7 ⟨rfl, hb⟩; have n0_ := Aside0.mk (below_step (by repeat (first | (with_reducible first | exact HB.out | apply below_alloc | apply pw_below_drewN | apply below_drew1) | exact HB.out)) hb); clear HB; have HB := n0_; clear n0_; (try clear hb); (try clear hb2); (try clear hk); (try clear hi)))
      repeat (go_quiet (first | (go_at_call 13; (with_reducible refine (ballcocklaw05_awake.calls  false _ A4.out).mono ?_); rintro e w7 ⟨rfl, hb⟩; have n0_ := Aside0.mk (below_step (by repeat (first | (with_reducible first | exact HB.out | apply below_alloc | apply pw_below_drewN | apply below_drew1) | exact HB.out)) hb); clear HB; have HB := n0_; clear n0_; (try clear hb); (try clear hb2); (try clear hk); (try clear hi))); try go_wp2_with (first | (go_at_call 13; (with_reducible refine (ballcocklaw05_awake.calls  false _ A4.out).mono ?_); rintro e w7 ⟨rfl, hb⟩; have n0_ := Aside0.mk (below_step (by repeat (first | (with_reducible first | exact HB.out | apply below_alloc | apply pw_below_drewN | apply below_drew1) | exact HB.out)) hb); clear HB; have HB := n0_; clear n0_; (try clear hb); (try clear hb2); (try clear hk); (try clear hi))))
      go_meet
      case rel => exact ⟨_, (true), (by first | rfl | (simp; done) | (simp [*]; done)), H', ⟨by first | omega | exact Nat.le_refl _⟩, ⟨by repeat (first | (with_reducible first | exact HB.out | apply below_alloc | apply pw_below_drewN | apply below_drew1) | exact HB.out)⟩⟩
  case rest =>
    clear HC3
    try clear p2
    try clear c5
    obtain ⟨kq, x18_2, rfl, HA, HJ2, HB⟩ := hcut
    cases kq with
    | zero => exact absurd HA.out (by simp [ballcocklaw05_LexAgain.j0])
    | succ kj2 =>
      have H := HA.out
      clear HA
      simp only [ballcocklaw05_LexAgain.j0] at H
      by_cases c8 : x18_2 = true
      · subst c8
        have H1 : ((ballcocklaw05_awake.f).bind fun t187 => (some t187)) = some r := by rw [if_pos rfl] at H; exact H
        clear H
        have H := H1
        clear H1
        replace H := Option.bind_eq_some_iff.mp H
        obtain ⟨t187, A90, H⟩ := H
        replace H : (some t187) = some r := H
        have A9 := Aside0.mk A90
        clear A90
        obtain rfl := Option.some.inj H
        go_wp2_with (first | (go_at_call 13; (with_reducible refine (ballcocklaw05_awake.calls  t187 _ A9.out).mono ?_); rintro e w10 ⟨rfl, hb⟩; have n0_ := Aside0.mk (below_step (by repeat (first | (with_reducible first | exact HB.out | apply below_alloc | apply pw_below_drewN | apply below_drew1) | exact HB.out)) hb); clear HB; have HB := n0_; clear n0_; (try clear hb); (try clear hb2); (try clear hk); (try clear hi)))
        repeat (go_quiet (first | (go_at_call 13; (with_reducible refine (ballcocklaw05_awake.calls  t187 _ A9.out).mono ?_); rintro e w10 ⟨rfl, hb⟩; have n0_ := Aside0.mk (below_step (by repeat (first | (with_reducible first | exact HB.out | apply below_alloc | apply pw_below_drewN | apply below_drew1) | exact HB.out)) hb); clear HB; have HB := n0_; clear n0_; (try clear hb); (try clear hb2); (try clear hk); (try clear hi))); try go_wp2_with (first | (go_at_call 13; (with_reducible refine (ballcocklaw05_awake.calls  t187 _ A9.out).mono ?_); rintro e w10 ⟨rfl, hb⟩; have n0_ := Aside0.mk (below_step (by repeat (first | (with_reducible first | exact HB.out | apply below_alloc | apply pw_below_drewN | apply below_drew1) | exact HB.out)) hb); clear HB; have HB := n0_; clear n0_; (try clear hb); (try clear hb2); (try clear hk); (try clear hi))))
        go_ret
        exact ⟨by first | rfl | (simp [errW_none, errW_some] <;> rfl) | (simp [*, errW_none, errW_some] <;> rfl), by repeat (first | (with_reducible first | exact HB.out | apply below_alloc | apply pw_below_drewN | apply below_drew1) | exact HB.out)⟩
      · replace c8 := Bool.eq_false_iff.mpr c8
        subst c8
        have H1 : ((ballcockref05_Tokens.f kj2 a0).bind fun bt188 => (if bt188.2.1 = 0 then (ballcocklaw05_LexAgain.l0 kj2 a1 bt188.1 (⟨#[]⟩ : ByteArray) 0) else (some true))) = some r := by rw [if_neg (show ¬ (false = true) by decide)] at H; exact H
        clear H
        have H := H1
        clear H1
        replace H := Option.bind_eq_some_iff.mp H
        obtain ⟨⟨t188, t191, t192⟩, A110, H⟩ := H
        replace H : (if t191 = 0 then (ballcocklaw05_LexAgain.l0 kj2 a1 t188 (⟨#[]⟩ : ByteArray) 0) else (some true)) = some r := H
        have A11 := Aside0.mk A110
        clear A110
        by_cases c12 : t191 = 0
        · rw [if_pos c12] at H
          have c12b0 : (t191 == 0) = true := beq_iff_eq.mpr c12
          have c12b1 : (t191 != 0) = false := bne_eq_false_iff_eq.mpr c12
          clear c12
          have H' := Aside0.mk H
          clear H
          go_wp2_with (first | (go_at_call 15; (with_reducible refine (ballcockref05_Tokens.calls kj2 a0 t188 t191 t192 _ A11.out).mono ?_); rintro e w13 ⟨v189, rfl, ho0, hb⟩; have n0_ := Aside0.mk (Kd.R_lower ho0 (below_size (by repeat (first | (with_reducible first | exact HB.out | apply below_alloc | apply pw_below_drewN | apply below_drew1) | exact HB.out)))); have n1_ := Aside0.mk (below_step (by repeat (first | (with_reducible first | exact HB.out | apply below_alloc | apply pw_below_drewN | apply below_drew1) | exact HB.out)) hb); clear HB; have HO190 := n0_; have HB := n1_; clear n0_ n1_; (try clear hb); (try clear hb2); (try clear hk); (try clear hi); (try clear ho0)) | ((with_reducible refine gate_dst (N := 6) rfl ?_); (try (refine gate_guard (by rfl) ?_; dsimp only)); refine box_event ?hg (N := 6) ?hd (cs := #[.int .i64 0, .int .i64 0]) (t := 26) ?hr ?_; (case hd => rfl); (case hg => rfl); (case hr => first | (go_simp; done) | (go_simp; rfl)); intro gb193 hg w14 hbox hb; have n0_ := Aside0.mk (Kd.R_below (by (with_reducible repeat (first | apply Kd.R_alloc | apply Kd.R_drewN | apply Kd.R_drew)); exact HO190.out) hb); have n1_ := Aside0.mk (below_step (by repeat (first | (with_reducible first | exact HB.out | apply below_alloc | apply pw_below_drewN | apply below_drew1) | exact HB.out)) hb); have n2_ := Aside0.mk (hbox); have n3_ := Aside0.mk ((by rw [hg]; exact (below_size (by repeat (first | (with_reducible first | exact HB.out | apply below_alloc | apply pw_below_drewN | apply below_drew1) | exact HB.out))) : w.heap.size ≤ gb193)); have n4_ := Aside0.mk ((by rw [hg]; exact (below_size (by repeat (first | (with_reducible first | exact HB.out | apply below_alloc | apply pw_below_drewN | apply below_drew1) | exact HB.out))) : w.heap.size ≤ gb193)); clear HO190; clear HB; have HO190 := n0_; have HB := n1_; have BK193 := n2_; have GW193 := n3_; have GE193 := n4_; clear n0_ n1_ n2_ n3_ n4_; clear hb hbox hg; have hcz15_0 : w14.cell? ⟨gb193, 0, none⟩ = some (.int .i64 0) := (blk_cell BK193.out 0).trans rfl; have hcz15_1 : w14.cell? ⟨gb193, 1, none⟩ = some (.int .i64 0) := (blk_cell BK193.out 1).trans rfl; have hfz15_0 := blk_frozen BK193.out 0; have hfz15_1 := blk_frozen BK193.out 1))
          repeat (go_quiet (first | (go_at_call 15; (with_reducible refine (ballcockref05_Tokens.calls kj2 a0 t188 t191 t192 _ A11.out).mono ?_); rintro e w13 ⟨v189, rfl, ho0, hb⟩; have n0_ := Aside0.mk (Kd.R_lower ho0 (below_size (by repeat (first | (with_reducible first | exact HB.out | apply below_alloc | apply pw_below_drewN | apply below_drew1) | exact HB.out)))); have n1_ := Aside0.mk (below_step (by repeat (first | (with_reducible first | exact HB.out | apply below_alloc | apply pw_below_drewN | apply below_drew1) | exact HB.out)) hb); clear HB; have HO190 := n0_; have HB := n1_; clear n0_ n1_; (try clear hb); (try clear hb2); (try clear hk); (try clear hi); (try clear ho0)) | ((with_reducible refine gate_dst (N := 6) rfl ?_); (try (refine gate_guard (by rfl) ?_; dsimp only)); refine box_event ?hg (N := 6) ?hd (cs := #[.int .i64 0, .int .i64 0]) (t := 26) ?hr ?_; (case hd => rfl); (case hg => rfl); (case hr => first | (go_simp; done) | (go_simp; rfl)); intro gb193 hg w14 hbox hb; have n0_ := Aside0.mk (Kd.R_below (by (with_reducible repeat (first | apply Kd.R_alloc | apply Kd.R_drewN | apply Kd.R_drew)); exact HO190.out) hb); have n1_ := Aside0.mk (below_step (by repeat (first | (with_reducible first | exact HB.out | apply below_alloc | apply pw_below_drewN | apply below_drew1) | exact HB.out)) hb); have n2_ := Aside0.mk (hbox); have n3_ := Aside0.mk ((by rw [hg]; exact (below_size (by repeat (first | (with_reducible first | exact HB.out | apply below_alloc | apply pw_below_drewN | apply below_drew1) | exact HB.out))) : w.heap.size ≤ gb193)); have n4_ := Aside0.mk ((by rw [hg]; exact (below_size (by repeat (first | (with_reducible first | exact HB.out | apply below_alloc | apply pw_below_drewN | apply below_drew1) | exact HB.out))) : w.heap.size ≤ gb193)); clear HO190; clear HB; have HO190 := n0_; have HB := n1_; have BK193 := n2_; have GW193 := n3_; have GE193 := n4_; clear n0_ n1_ n2_ n3_ n4_; clear hb hbox hg; have hcz15_0 : w14.cell? ⟨gb193, 0, none⟩ = some (.int .i64 0) := (blk_cell BK193.out 0).trans rfl; have hcz15_1 : w14.cell? ⟨gb193, 1, none⟩ = some (.int .i64 0) := (blk_cell BK193.out 1).trans rfl; have hfz15_0 := blk_frozen BK193.out 0; have hfz15_1 := blk_frozen BK193.out 1)); try go_wp2_with (first | (go_at_call 15; (with_reducible refine (ballcockref05_Tokens.calls kj2 a0 t188 t191 t192 _ A11.out).mono ?_); rintro e w13 ⟨v189, rfl, ho0, hb⟩; have n0_ := Aside0.mk (Kd.R_lower ho0 (below_size (by repeat (first | (with_reducible first | exact HB.out | apply below_alloc | apply pw_below_drewN | apply below_drew1) | exact HB.out)))); have n1_ := Aside0.mk (below_step (by repeat (first | (with_reducible first | exact HB.out | apply below_alloc | apply pw_below_drewN | apply below_drew1) | exact HB.out)) hb); clear HB; have HO190 := n0_; have HB := n1_; clear n0_ n1_; (try clear hb); (try clear hb2); (try clear hk); (try clear hi); (try clear ho0)) | ((with_reducible refine gate_dst (N := 6) rfl ?_); (try (refine gate_guard (by rfl) ?_; dsimp only)); refine box_event ?hg (N := 6) ?hd (cs := #[.int .i64 0, .int .i64 0]) (t := 26) ?hr ?_; (case hd => rfl); (case hg => rfl); (case hr => first | (go_simp; done) | (go_simp; rfl)); intro gb193 hg w14 hbox hb; have n0_ := Aside0.mk (Kd.R_below (by (with_reducible repeat (first | apply Kd.R_alloc | apply Kd.R_drewN | apply Kd.R_drew)); exact HO190.out) hb); have n1_ := Aside0.mk (below_step (by repeat (first | (with_reducible first | exact HB.out | apply below_alloc | apply pw_below_drewN | apply below_drew1) | exact HB.out)) hb); have n2_ := Aside0.mk (hbox); have n3_ := Aside0.mk ((by rw [hg]; exact (below_size (by repeat (first | (with_reducible first | exact HB.out | apply below_alloc | apply pw_below_drewN | apply below_drew1) | exact HB.out))) : w.heap.size ≤ gb193)); have n4_ := Aside0.mk ((by rw [hg]; exact (below_size (by repeat (first | (with_reducible first | exact HB.out | apply below_alloc | apply pw_below_drewN | apply below_drew1) | exact HB.out))) : w.heap.size ≤ gb193)); clear HO190; clear HB; have HO190 := n0_; have HB := n1_; have BK193 := n2_; have GW193 := n3_; have GE193 := n4_; clear n0_ n1_ n2_ n3_ n4_; clear hb hbox hg; have hcz15_0 : w14.cell? ⟨gb193, 0, none⟩ = some (.int .i64 0) := (blk_cell BK193.out 0).trans rfl; have hcz15_1 : w14.cell? ⟨gb193, 1, none⟩ = some (.int .i64 0) := (blk_cell BK193.out 1).trans rfl; have hfz15_0 := blk_frozen BK193.out 0; have hfz15_1 := blk_frozen BK193.out 1)))
          go_loopg [7, 8] kj2 (fun kq v7 v8 w' => ∃ (x7_2 : ByteArray) (x8_2 : Int), v7 = .string x7_2 ∧ v8 = .int .i64 x8_2 ∧ Aside0 (ballcocklaw05_LexAgain.l0 kq a1 t188 x7_2 x8_2 = some r) ∧ Aside0 (kq ≤ kj2) ∧ Aside0 (Kd.R k32 32 w' w.heap.size (fun _ => True) v189 t188) ∧ Aside0 (w'.heap[gb193]? = some (.cells #[.int .i64 t191, .int .i64 t192] 26 (0, 0))) ∧ Aside0 (Below w.heap.size w w'))
          case atStart => exact ⟨((⟨#[]⟩ : ByteArray)), (0), (by first | rfl | (simp; done) | (simp [*]; done)), (by first | rfl | (simp; done) | (simp [*]; done)), H', ⟨Nat.le_refl _⟩, ⟨by (with_reducible repeat (first | apply Kd.R_alloc | apply Kd.R_drewN | apply Kd.R_drew)); exact Kd.R_mono (Kd.R_far (p := ⟨gb193, 1, none⟩) (Kd.R_far (p := ⟨gb193, 0, none⟩) (Kd.R_types HO190.out BK193.out (by decide)) (fun _ hk => hk.2) (.int .i64 t191)) (fun _ hk => hk.2) (.int .i64 t192)) (fun _ hk => trivial)⟩, ⟨by (with_reducible repeat (first | refine blk_drewN ?_ _ | refine blk_drew ?_ | refine blk_alloc ?_ _)); refine blk_put (cs := #[.int .i64 t191, .int .i64 0]) ?_ 1 _ rfl; (with_reducible repeat (first | refine blk_drewN ?_ _ | refine blk_drew ?_ | refine blk_alloc ?_ _)); refine blk_put (cs := #[.int .i64 0, .int .i64 0]) ?_ 0 _ rfl; (with_reducible repeat (first | refine blk_drewN ?_ _ | refine blk_drew ?_ | refine blk_alloc ?_ _)); exact BK193.out⟩, ⟨by repeat (first | (with_reducible first | exact HB.out | apply below_alloc | apply pw_below_drewN | apply below_drew1 | refine below_set ?_ GE193.out) | exact HB.out)⟩⟩
          case round =>
            clear H'
            try clear c1
            try clear p2
            try clear c5
            try clear c8
            try clear c12
            try clear c12b0
            try clear c12b1
            try clear hcz15_0
            try clear hcz15_1
            try clear hfz15_0
            try clear hfz15_1
            try clear p2
            obtain ⟨x7_2, x8_2, rfl, rfl, HA, HK2, HO_5, BK193, HB⟩ := hrel
            cases gk with
            | zero => exact absurd HA.out (by simp [ballcocklaw05_LexAgain.l0])
            | succ k2 =>
              have H := HA.out
              clear HA
              simp only [ballcocklaw05_LexAgain.l0] at H
              by_cases c16 : x8_2 < (wrap64 ((t188.length : Int) - 1))
              · rw [if_pos c16] at H
                have c16b0 : decide (x8_2 < (wrap64 ((t188.length : Int) - 1))) = true := decide_eq_true c16
                clear c16
                by_cases c17 : 0 ≤ x8_2
                · rw [if_pos c17] at H
                  have c17b0 : decide (0 ≤ x8_2) = true := decide_eq_true c17
                  clear c17
                  by_cases c18 : x8_2 < (t188.length : Int)
                  · rw [if_pos c18] at H
                    have c18b0 : decide (x8_2 < (t188.length : Int)) = true := decide_eq_true c18
                    clear c18
                    by_cases c19 : x7_2.size + ((rd_T32 t188 x8_2).f1).size ≤ 9223372036854775807
                    · rw [if_pos c19] at H
                      have c19b0 := eq_true c19
                      have c19b1 : decide (x7_2.size + ((rd_T32 t188 x8_2).f1).size ≤ 9223372036854775807) = true := decide_eq_true c19
                      try have c19b2 : (9223372036854775807 < x7_2.size + ((rd_T32 t188 x8_2).f1).size) = False := eq_false (Nat.not_lt.2 c19)
                      by_cases c20 : a1 = true
                      · subst c20
                        have H1 : (if (x7_2 ++ ((rd_T32 t188 x8_2).f1)).size + 4 ≤ 9223372036854775807 then (ballcocklaw05_LexAgain.l0 k2 true t188 ((x7_2 ++ ((rd_T32 t188 x8_2).f1)) ++ (⟨#[35, 32, 120, 10]⟩ : ByteArray)) (wrap64 (x8_2 + 1))) else (none)) = some r := by rw [if_pos rfl] at H; exact H
                        clear H
                        have H := H1
                        clear H1
                        by_cases c21 : (x7_2 ++ ((rd_T32 t188 x8_2).f1)).size + 4 ≤ 9223372036854775807
                        · rw [if_pos c21] at H
                          have c21b0 := eq_true c21
                          have c21b1 : decide ((x7_2 ++ ((rd_T32 t188 x8_2).f1)).size + 4 ≤ 9223372036854775807) = true := decide_eq_true c21
                          have c21s : x7_2.size + ((rd_T32 t188 x8_2).f1).size + 4 ≤ 9223372036854775807 := by rw [← ByteArray.size_append]; exact c21
                          have c21_s0 := eq_true c21s
                          have c21_s1 : decide (x7_2.size + ((rd_T32 t188 x8_2).f1).size + 4 ≤ 9223372036854775807) = true := decide_eq_true c21s
                          try have c21b2 : (9223372036854775807 < (x7_2 ++ ((rd_T32 t188 x8_2).f1)).size + 4) = False := eq_false (Nat.not_lt.2 c21)
                          have H' := Aside0.mk H
                          clear H
                          obtain ⟨Ao22, co22, eo22⟩ := Kd.R_slice HO_5.out
                          subst eo22
                          have p194 : 0 ≤ (x8_2 : Int) := of_decide_eq_true (by first | (with_reducible assumption) | assumption)
                          have q194 : x8_2 < (t188.length : Int) := of_decide_eq_true (by first | (with_reducible assumption) | assumption)
                          obtain ⟨ad194, e194, hx194_0, hx194_1, hx194_2⟩ := at_T32 (Kd.R_reads' HO_5.out).2.2 x8_2 p194 q194
                          cases e194
                          replace p194 := eq_true p194
                          replace q194 := eq_true q194
                          go_wp2
                          repeat (go_quiet (fail); try go_wp2)
                          go_roundg k2
                          case measure => have := HJ2.out; have := HK2.out; omega
                          case rel => exact ⟨((x7_2 ++ ((rd_T32 t188 x8_2).f1)) ++ (⟨#[35, 32, 120, 10]⟩ : ByteArray)), (wrap64 (x8_2 + 1)), (by first | rfl | (simp; done) | (simp [*]; done)), (by first | rfl | (simp; done) | (simp [*]; done)), H', ⟨by have := HJ2.out; have := HK2.out; omega⟩, ⟨by (with_reducible repeat (first | apply Kd.R_alloc | apply Kd.R_drewN | apply Kd.R_drew)); exact HO_5.out⟩, ⟨by (with_reducible repeat (first | refine blk_drewN ?_ _ | refine blk_drew ?_ | refine blk_alloc ?_ _)); exact BK193.out⟩, ⟨by repeat (first | (with_reducible first | exact HB.out | apply below_alloc | apply pw_below_drewN | apply below_drew1 | refine below_set ?_ GE193.out) | exact HB.out)⟩⟩
                        · rw [if_neg c21] at H
                          exact absurd H (by simp)
                      · replace c20 := Bool.eq_false_iff.mpr c20
                        subst c20
                        have H1 : (if (x7_2 ++ ((rd_T32 t188 x8_2).f1)).size + 1 ≤ 9223372036854775807 then (ballcocklaw05_LexAgain.l0 k2 false t188 ((x7_2 ++ ((rd_T32 t188 x8_2).f1)) ++ (⟨#[32]⟩ : ByteArray)) (wrap64 (x8_2 + 1))) else (none)) = some r := by rw [if_neg (show ¬ (false = true) by decide)] at H; exact H
                        clear H
                        have H := H1
                        clear H1
                        by_cases c23 : (x7_2 ++ ((rd_T32 t188 x8_2).f1)).size + 1 ≤ 9223372036854775807
                        · rw [if_pos c23] at H
                          have c23b0 := eq_true c23
                          have c23b1 : decide ((x7_2 ++ ((rd_T32 t188 x8_2).f1)).size + 1 ≤ 9223372036854775807) = true := decide_eq_true c23
                          have c23s : x7_2.size + ((rd_T32 t188 x8_2).f1).size + 1 ≤ 9223372036854775807 := by rw [← ByteArray.size_append]; exact c23
                          have c23_s0 := eq_true c23s
                          have c23_s1 : decide (x7_2.size + ((rd_T32 t188 x8_2).f1).size + 1 ≤ 9223372036854775807) = true := decide_eq_true c23s
                          try have c23b2 : (9223372036854775807 < (x7_2 ++ ((rd_T32 t188 x8_2).f1)).size + 1) = False := eq_false (Nat.not_lt.2 c23)
                          have H' := Aside0.mk H
                          clear H
                          obtain ⟨Ao24, co24, eo24⟩ := Kd.R_slice HO_5.out
                          subst eo24
                          have p194 : 0 ≤ (x8_2 : Int) := of_decide_eq_true (by first | (with_reducible assumption) | assumption)
                          have q194 : x8_2 < (t188.length : Int) := of_decide_eq_true (by first | (with_reducible assumption) | assumption)
                          obtain ⟨ad194, e194, hx194_0, hx194_1, hx194_2⟩ := at_T32 (Kd.R_reads' HO_5.out).2.2 x8_2 p194 q194
                          cases e194
                          replace p194 := eq_true p194
                          replace q194 := eq_true q194
                          go_wp2
                          repeat (go_quiet (fail); try go_wp2)
                          go_roundg k2
                          case measure => have := HJ2.out; have := HK2.out; omega
                          case rel => exact ⟨((x7_2 ++ ((rd_T32 t188 x8_2).f1)) ++ (⟨#[32]⟩ : ByteArray)), (wrap64 (x8_2 + 1)), (by first | rfl | (simp; done) | (simp [*]; done)), (by first | rfl | (simp; done) | (simp [*]; done)), H', ⟨by have := HJ2.out; have := HK2.out; omega⟩, ⟨by (with_reducible repeat (first | apply Kd.R_alloc | apply Kd.R_drewN | apply Kd.R_drew)); exact HO_5.out⟩, ⟨by (with_reducible repeat (first | refine blk_drewN ?_ _ | refine blk_drew ?_ | refine blk_alloc ?_ _)); exact BK193.out⟩, ⟨by repeat (first | (with_reducible first | exact HB.out | apply below_alloc | apply pw_below_drewN | apply below_drew1 | refine below_set ?_ GE193.out) | exact HB.out)⟩⟩
                        · rw [if_neg c23] at H
                          exact absurd H (by simp)
                    · rw [if_neg c19] at H
                      exact absurd H (by simp)
                  · rw [if_neg c18] at H
                    exact absurd H (by simp)
                · rw [if_neg c17] at H
                  exact absurd H (by simp)
              · rw [if_neg c16] at H
                have c16b0 : decide (x8_2 < (wrap64 ((t188.length : Int) - 1))) = false := decide_eq_false c16
                clear c16
                by_cases c25 : (x7_2.size : Int) > 6000
                · rw [if_pos c25] at H
                  have c25b0 : decide (6000 < (x7_2.size : Int)) = true := decide_eq_true c25
                  have c25b1 : decide (6000 < x7_2.size) = true := decide_eq_true (by omega)
                  clear c25
                  obtain rfl := Option.some.inj H
                  obtain ⟨Ao26, co26, eo26⟩ := Kd.R_slice HO_5.out
                  subst eo26
                  go_wp2
                  repeat (go_quiet (fail); try go_wp2)
                  go_ret
                  exact ⟨by first | rfl | (simp [errW_none, errW_some] <;> rfl) | (simp [*, errW_none, errW_some] <;> rfl), by repeat (first | (with_reducible first | exact HB.out | apply below_alloc | apply pw_below_drewN | apply below_drew1 | refine below_set ?_ GE193.out) | exact HB.out)⟩
                · rw [if_neg c25] at H
                  have c25b0 : decide (6000 < (x7_2.size : Int)) = false := decide_eq_false c25
                  have c25b1 : decide (6000 < x7_2.size) = false := decide_eq_false (by omega)
                  clear c25
                  replace H := Option.bind_eq_some_iff.mp H
                  obtain ⟨⟨t195, t198, t199⟩, A270, H⟩ := H
                  replace H : (if (!(t198 == 0) || (!(t199 == 0))) = true then (ballcocklaw05_LexAgain.j2 k2 t188 t195 true) else (ballcocklaw05_LexAgain.j2 k2 t188 t195 ((t195.length : Int) != (t188.length : Int)))) = some r := H
                  have A27 := Aside0.mk A270
                  clear A270
                  have HC28 := Aside0.mk H
                  clear H
                  obtain ⟨Ao29, co29, eo29⟩ := Kd.R_slice HO_5.out
                  subst eo29
                  go_upto_region 17 with (first | (go_at_call 14; (with_reducible refine (lex_Tokens.calls x7_2 t195 t198 t199 _ A27.out).mono ?_); rintro e w30 ⟨v196, rfl, ho0, hb⟩; have n0_ := Aside0.mk (Kd.R_elder' (by (with_reducible repeat (first | apply Kd.R_alloc | apply Kd.R_drewN | apply Kd.R_drew)); exact HO_5.out) (Kd.R_base ho0) hb); have n1_ := Aside0.mk (Kd.R_lower (Kd.R_new' ho0 (Kd.R_lt (by (with_reducible repeat (first | apply Kd.R_alloc | apply Kd.R_drewN | apply Kd.R_drew)); exact HO_5.out))) (below_size (by repeat (first | (with_reducible first | exact HB.out | apply below_alloc | apply pw_below_drewN | apply below_drew1 | refine below_set ?_ GE193.out) | exact HB.out)))); have n2_ := Aside0.mk (blk_below (g := gb193) (o := .cells #[.int .i64 t191, .int .i64 t192] 26 (0, 0)) (by (with_reducible repeat (first | refine blk_drewN ?_ _ | refine blk_drew ?_ | refine blk_alloc ?_ _)); exact BK193.out) hb); have n3_ := Aside0.mk (below_step (by repeat (first | (with_reducible first | exact HB.out | apply below_alloc | apply pw_below_drewN | apply below_drew1 | refine below_set ?_ GE193.out) | exact HB.out)) hb); clear HO_5; clear BK193; clear HB; have HO_5 := n0_; have HO197 := n1_; have BK193 := n2_; have HB := n3_; clear n0_ n1_ n2_ n3_; (try clear hb); (try clear hb2); (try clear hk); (try clear hi); (try clear ho0)) | ((with_reducible refine gate_dst (N := 10) rfl ?_); (try (refine gate_guard (by rfl) ?_; dsimp only)); refine box_event ?hg (N := 10) ?hd (cs := #[.int .i64 0, .int .i64 0]) (t := 26) ?hr ?_; (case hd => rfl); (case hg => rfl); (case hr => first | (go_simp; done) | (go_simp; rfl)); intro gb200 hg w31 hbox hb; have n0_ := Aside0.mk (Kd.R_below (by (with_reducible repeat (first | apply Kd.R_alloc | apply Kd.R_drewN | apply Kd.R_drew)); exact HO_5.out) hb); have n1_ := Aside0.mk (Kd.R_below (by (with_reducible repeat (first | apply Kd.R_alloc | apply Kd.R_drewN | apply Kd.R_drew)); exact HO197.out) hb); have n2_ := Aside0.mk (blk_below (g := gb193) (o := .cells #[.int .i64 t191, .int .i64 t192] 26 (0, 0)) (by (with_reducible repeat (first | refine blk_drewN ?_ _ | refine blk_drew ?_ | refine blk_alloc ?_ _)); exact BK193.out) hb); have n3_ := Aside0.mk (below_step (by repeat (first | (with_reducible first | exact HB.out | apply below_alloc | apply pw_below_drewN | apply below_drew1 | refine below_set ?_ GE193.out) | exact HB.out)) hb); have n4_ := Aside0.mk (hbox); have n5_ := Aside0.mk ((by rw [hg]; exact (below_size (by repeat (first | (with_reducible first | exact HB.out | apply below_alloc | apply pw_below_drewN | apply below_drew1 | refine below_set ?_ GE193.out) | exact HB.out))) : w.heap.size ≤ gb200)); have n6_ := Aside0.mk ((by rw [hg]; exact (below_size (by repeat (first | (with_reducible first | exact HB.out | apply below_alloc | apply pw_below_drewN | apply below_drew1 | refine below_set ?_ GE193.out) | exact HB.out))) : w.heap.size ≤ gb200)); have n7_ := Aside0.mk ((by rw [hg]; exact Nat.ne_of_lt (blk_lt (g := gb193) (o := .cells #[.int .i64 t191, .int .i64 t192] 26 (0, 0)) (by (with_reducible repeat (first | refine blk_drewN ?_ _ | refine blk_drew ?_ | refine blk_alloc ?_ _)); exact BK193.out)) : gb193 ≠ gb200)); have n8_ := Aside0.mk ((by rw [hg]; exact Nat.ne_of_gt (blk_lt (g := gb193) (o := .cells #[.int .i64 t191, .int .i64 t192] 26 (0, 0)) (by (with_reducible repeat (first | refine blk_drewN ?_ _ | refine blk_drew ?_ | refine blk_alloc ?_ _)); exact BK193.out)) : gb200 ≠ gb193)); clear HO_5; clear HO197; clear BK193; clear HB; have HO_5 := n0_; have HO197 := n1_; have BK193 := n2_; have HB := n3_; have BK200 := n4_; have GW200 := n5_; have GE200 := n6_; have NB193_200 := n7_; have NB200_193 := n8_; clear n0_ n1_ n2_ n3_ n4_ n5_ n6_ n7_ n8_; clear hb hbox hg; have hnb32 := NB200_193.out; have hnc32 := NB193_200.out; have hcz33_0 : w31.cell? ⟨gb200, 0, none⟩ = some (.int .i64 0) := (blk_cell BK200.out 0).trans rfl; have hcz33_1 : w31.cell? ⟨gb200, 1, none⟩ = some (.int .i64 0) := (blk_cell BK200.out 1).trans rfl; have hfz33_0 := blk_frozen BK200.out 0; have hfz33_1 := blk_frozen BK200.out 1))
                  repeat (go_quiet (first | (go_at_call 14; (with_reducible refine (lex_Tokens.calls x7_2 t195 t198 t199 _ A27.out).mono ?_); rintro e w30 ⟨v196, rfl, ho0, hb⟩; have n0_ := Aside0.mk (Kd.R_elder' (by (with_reducible repeat (first | apply Kd.R_alloc | apply Kd.R_drewN | apply Kd.R_drew)); exact HO_5.out) (Kd.R_base ho0) hb); have n1_ := Aside0.mk (Kd.R_lower (Kd.R_new' ho0 (Kd.R_lt (by (with_reducible repeat (first | apply Kd.R_alloc | apply Kd.R_drewN | apply Kd.R_drew)); exact HO_5.out))) (below_size (by repeat (first | (with_reducible first | exact HB.out | apply below_alloc | apply pw_below_drewN | apply below_drew1 | refine below_set ?_ GE193.out) | exact HB.out)))); have n2_ := Aside0.mk (blk_below (g := gb193) (o := .cells #[.int .i64 t191, .int .i64 t192] 26 (0, 0)) (by (with_reducible repeat (first | refine blk_drewN ?_ _ | refine blk_drew ?_ | refine blk_alloc ?_ _)); exact BK193.out) hb); have n3_ := Aside0.mk (below_step (by repeat (first | (with_reducible first | exact HB.out | apply below_alloc | apply pw_below_drewN | apply below_drew1 | refine below_set ?_ GE193.out) | exact HB.out)) hb); clear HO_5; clear BK193; clear HB; have HO_5 := n0_; have HO197 := n1_; have BK193 := n2_; have HB := n3_; clear n0_ n1_ n2_ n3_; (try clear hb); (try clear hb2); (try clear hk); (try clear hi); (try clear ho0)) | ((with_reducible refine gate_dst (N := 10) rfl ?_); (try (refine gate_guard (by rfl) ?_; dsimp only)); refine box_event ?hg (N := 10) ?hd (cs := #[.int .i64 0, .int .i64 0]) (t := 26) ?hr ?_; (case hd => rfl); (case hg => rfl); (case hr => first | (go_simp; done) | (go_simp; rfl)); intro gb200 hg w31 hbox hb; have n0_ := Aside0.mk (Kd.R_below (by (with_reducible repeat (first | apply Kd.R_alloc | apply Kd.R_drewN | apply Kd.R_drew)); exact HO_5.out) hb); have n1_ := Aside0.mk (Kd.R_below (by (with_reducible repeat (first | apply Kd.R_alloc | apply Kd.R_drewN | apply Kd.R_drew)); exact HO197.out) hb); have n2_ := Aside0.mk (blk_below (g := gb193) (o := .cells #[.int .i64 t191, .int .i64 t192] 26 (0, 0)) (by (with_reducible repeat (first | refine blk_drewN ?_ _ | refine blk_drew ?_ | refine blk_alloc ?_ _)); exact BK193.out) hb); have n3_ := Aside0.mk (below_step (by repeat (first | (with_reducible first | exact HB.out | apply below_alloc | apply pw_below_drewN | apply below_drew1 | refine below_set ?_ GE193.out) | exact HB.out)) hb); have n4_ := Aside0.mk (hbox); have n5_ := Aside0.mk ((by rw [hg]; exact (below_size (by repeat (first | (with_reducible first | exact HB.out | apply below_alloc | apply pw_below_drewN | apply below_drew1 | refine below_set ?_ GE193.out) | exact HB.out))) : w.heap.size ≤ gb200)); have n6_ := Aside0.mk ((by rw [hg]; exact (below_size (by repeat (first | (with_reducible first | exact HB.out | apply below_alloc | apply pw_below_drewN | apply below_drew1 | refine below_set ?_ GE193.out) | exact HB.out))) : w.heap.size ≤ gb200)); have n7_ := Aside0.mk ((by rw [hg]; exact Nat.ne_of_lt (blk_lt (g := gb193) (o := .cells #[.int .i64 t191, .int .i64 t192] 26 (0, 0)) (by (with_reducible repeat (first | refine blk_drewN ?_ _ | refine blk_drew ?_ | refine blk_alloc ?_ _)); exact BK193.out)) : gb193 ≠ gb200)); have n8_ := Aside0.mk ((by rw [hg]; exact Nat.ne_of_gt (blk_lt (g := gb193) (o := .cells #[.int .i64 t191, .int .i64 t192] 26 (0, 0)) (by (with_reducible repeat (first | refine blk_drewN ?_ _ | refine blk_drew ?_ | refine blk_alloc ?_ _)); exact BK193.out)) : gb200 ≠ gb193)); clear HO_5; clear HO197; clear BK193; clear HB; have HO_5 := n0_; have HO197 := n1_; have BK193 := n2_; have HB := n3_; have BK200 := n4_; have GW200 := n5_; have GE200 := n6_; have NB193_200 := n7_; have NB200_193 := n8_; clear n0_ n1_ n2_ n3_ n4_ n5_ n6_ n7_ n8_; clear hb hbox hg; have hnb32 := NB200_193.out; have hnc32 := NB193_200.out; have hcz33_0 : w31.cell? ⟨gb200, 0, none⟩ = some (.int .i64 0) := (blk_cell BK200.out 0).trans rfl; have hcz33_1 : w31.cell? ⟨gb200, 1, none⟩ = some (.int .i64 0) := (blk_cell BK200.out 1).trans rfl; have hfz33_0 := blk_frozen BK200.out 0; have hfz33_1 := blk_frozen BK200.out 1)); go_upto_region 17 with (first | (go_at_call 14; (with_reducible refine (lex_Tokens.calls x7_2 t195 t198 t199 _ A27.out).mono ?_); rintro e w30 ⟨v196, rfl, ho0, hb⟩; have n0_ := Aside0.mk (Kd.R_elder' (by (with_reducible repeat (first | apply Kd.R_alloc | apply Kd.R_drewN | apply Kd.R_drew)); exact HO_5.out) (Kd.R_base ho0) hb); have n1_ := Aside0.mk (Kd.R_lower (Kd.R_new' ho0 (Kd.R_lt (by (with_reducible repeat (first | apply Kd.R_alloc | apply Kd.R_drewN | apply Kd.R_drew)); exact HO_5.out))) (below_size (by repeat (first | (with_reducible first | exact HB.out | apply below_alloc | apply pw_below_drewN | apply below_drew1 | refine below_set ?_ GE193.out) | exact HB.out)))); have n2_ := Aside0.mk (blk_below (g := gb193) (o := .cells #[.int .i64 t191, .int .i64 t192] 26 (0, 0)) (by (with_reducible repeat (first | refine blk_drewN ?_ _ | refine blk_drew ?_ | refine blk_alloc ?_ _)); exact BK193.out) hb); have n3_ := Aside0.mk (below_step (by repeat (first | (with_reducible first | exact HB.out | apply below_alloc | apply pw_below_drewN | apply below_drew1 | refine below_set ?_ GE193.out) | exact HB.out)) hb); clear HO_5; clear BK193; clear HB; have HO_5 := n0_; have HO197 := n1_; have BK193 := n2_; have HB := n3_; clear n0_ n1_ n2_ n3_; (try clear hb); (try clear hb2); (try clear hk); (try clear hi); (try clear ho0)) | ((with_reducible refine gate_dst (N := 10) rfl ?_); (try (refine gate_guard (by rfl) ?_; dsimp only)); refine box_event ?hg (N := 10) ?hd (cs := #[.int .i64 0, .int .i64 0]) (t := 26) ?hr ?_; (case hd => rfl); (case hg => rfl); (case hr => first | (go_simp; done) | (go_simp; rfl)); intro gb200 hg w31 hbox hb; have n0_ := Aside0.mk (Kd.R_below (by (with_reducible repeat (first | apply Kd.R_alloc | apply Kd.R_drewN | apply Kd.R_drew)); exact HO_5.out) hb); have n1_ := Aside0.mk (Kd.R_below (by (with_reducible repeat (first | apply Kd.R_alloc | apply Kd.R_drewN | apply Kd.R_drew)); exact HO197.out) hb); have n2_ := Aside0.mk (blk_below (g := gb193) (o := .cells #[.int .i64 t191, .int .i64 t192] 26 (0, 0)) (by (with_reducible repeat (first | refine blk_drewN ?_ _ | refine blk_drew ?_ | refine blk_alloc ?_ _)); exact BK193.out) hb); have n3_ := Aside0.mk (below_step (by repeat (first | (with_reducible first | exact HB.out | apply below_alloc | apply pw_below_drewN | apply below_drew1 | refine below_set ?_ GE193.out) | exact HB.out)) hb); have n4_ := Aside0.mk (hbox); have n5_ := Aside0.mk ((by rw [hg]; exact (below_size (by repeat (first | (with_reducible first | exact HB.out | apply below_alloc | apply pw_below_drewN | apply below_drew1 | refine below_set ?_ GE193.out) | exact HB.out))) : w.heap.size ≤ gb200)); have n6_ := Aside0.mk ((by rw [hg]; exact (below_size (by repeat (first | (with_reducible first | exact HB.out | apply below_alloc | apply pw_below_drewN | apply below_drew1 | refine below_set ?_ GE193.out) | exact HB.out))) : w.heap.size ≤ gb200)); have n7_ := Aside0.mk ((by rw [hg]; exact Nat.ne_of_lt (blk_lt (g := gb193) (o := .cells #[.int .i64 t191, .int .i64 t192] 26 (0, 0)) (by (with_reducible repeat (first | refine blk_drewN ?_ _ | refine blk_drew ?_ | refine blk_alloc ?_ _)); exact BK193.out)) : gb193 ≠ gb200)); have n8_ := Aside0.mk ((by rw [hg]; exact Nat.ne_of_gt (blk_lt (g := gb193) (o := .cells #[.int .i64 t191, .int .i64 t192] 26 (0, 0)) (by (with_reducible repeat (first | refine blk_drewN ?_ _ | refine blk_drew ?_ | refine blk_alloc ?_ _)); exact BK193.out)) : gb200 ≠ gb193)); clear HO_5; clear HO197; clear BK193; clear HB; have HO_5 := n0_; have HO197 := n1_; have BK193 := n2_; have HB := n3_; have BK200 := n4_; have GW200 := n5_; have GE200 := n6_; have NB193_200 := n7_; have NB200_193 := n8_; clear n0_ n1_ n2_ n3_ n4_ n5_ n6_ n7_ n8_; clear hb hbox hg; have hnb32 := NB200_193.out; have hnc32 := NB193_200.out; have hcz33_0 : w31.cell? ⟨gb200, 0, none⟩ = some (.int .i64 0) := (blk_cell BK200.out 0).trans rfl; have hcz33_1 : w31.cell? ⟨gb200, 1, none⟩ = some (.int .i64 0) := (blk_cell BK200.out 1).trans rfl; have hfz33_0 := blk_frozen BK200.out 0; have hfz33_1 := blk_frozen BK200.out 1)))
                  (try simp only [Act.put, List.setIfInBounds_toArray, List.set_cons_zero, List.set_cons_succ])
                  go_cut [64] (fun v64 wc => ∃ (kq : Nat) (x64_27 : Bool), v64 = .bool x64_27 ∧ Aside0 (ballcocklaw05_LexAgain.j2 kq t188 t195 x64_27 = some r) ∧ Aside0 (kq ≤ k2) ∧ Aside0 (Kd.R k32 32 wc w.heap.size (fun k_ => some k_ ≠ (v196 : Value).ownBlock) (.slice Ao29 t188.length co29) t188) ∧ Aside0 (Kd.R k32 32 wc w.heap.size (fun k_ => some k_ ≠ ((.slice Ao29 t188.length co29) : Value).ownBlock) v196 t195) ∧ Aside0 (wc.heap[gb193]? = some (.cells #[.int .i64 t191, .int .i64 t192] 26 (0, 0))) ∧ Aside0 (wc.heap[gb200]? = some (.cells #[.int .i64 t198, .int .i64 t199] 26 (0, 0))) ∧ Aside0 (Below w.heap.size w wc))
                  case first =>
                    have H := HC28.out
                    clear HC28
                    by_cases c34 : (!(t198 == 0) || (!(t199 == 0))) = true
                    · rw [if_pos c34] at H
                      have c34b0 : (!(t198 == 0) || (!(t199 == 0))) = true := c34
                      clear c34
                      (first | rw [c34b0] | (simp only [i64_w, i32_w]; rw [c34b0]) | skip)
                      have H' := Aside0.mk H
                      clear H
                      have hnb35 := NB200_193.out
                      have hnc35 := NB193_200.out
                      have hcz36_0 : w31.cell? ⟨gb200, 0, none⟩ = some (.int .i64 0) := (blk_cell BK200.out 0).trans rfl
                      have hcz36_1 : w31.cell? ⟨gb200, 1, none⟩ = some (.int .i64 0) := (blk_cell BK200.out 1).trans rfl
                      have hfz36_0 := blk_frozen BK200.out 0
                      have hfz36_1 := blk_frozen BK200.out 1
                      go_wp2
                      repeat (go_quiet (fail); try go_wp2)
                      go_meet
                      case rel => exact ⟨_, (true), (by first | rfl | (simp; done) | (simp [*]; done)), H', ⟨by have := HJ2.out; have := HK2.out; first | omega | exact Nat.le_refl _⟩, ⟨by (with_reducible repeat (first | apply Kd.R_alloc | apply Kd.R_drewN | apply Kd.R_drew)); exact Kd.R_mono (Kd.R_far (p := ⟨gb200, 1, none⟩) (Kd.R_far (p := ⟨gb200, 0, none⟩) (Kd.R_types HO_5.out BK200.out (by decide)) (fun _ hk => hk.2) (.int .i64 t198)) (fun _ hk => hk.2) (.int .i64 t199)) (fun _ hk => hk.1.2)⟩, ⟨by (with_reducible repeat (first | apply Kd.R_alloc | apply Kd.R_drewN | apply Kd.R_drew)); exact Kd.R_mono (Kd.R_far (p := ⟨gb200, 1, none⟩) (Kd.R_far (p := ⟨gb200, 0, none⟩) (Kd.R_types HO197.out BK200.out (by decide)) (fun _ hk => hk.2) (.int .i64 t198)) (fun _ hk => hk.2) (.int .i64 t199)) (fun _ hk => hk.1.2)⟩, ⟨by (with_reducible repeat (first | refine blk_drewN ?_ _ | refine blk_drew ?_ | refine blk_alloc ?_ _)); refine blk_far ?_ NB193_200.out _; (with_reducible repeat (first | refine blk_drewN ?_ _ | refine blk_drew ?_ | refine blk_alloc ?_ _)); refine blk_far ?_ NB193_200.out _; (with_reducible repeat (first | refine blk_drewN ?_ _ | refine blk_drew ?_ | refine blk_alloc ?_ _)); exact BK193.out⟩, ⟨by (with_reducible repeat (first | refine blk_drewN ?_ _ | refine blk_drew ?_ | refine blk_alloc ?_ _)); refine blk_put (cs := #[.int .i64 t198, .int .i64 0]) ?_ 1 _ rfl; (with_reducible repeat (first | refine blk_drewN ?_ _ | refine blk_drew ?_ | refine blk_alloc ?_ _)); refine blk_put (cs := #[.int .i64 0, .int .i64 0]) ?_ 0 _ rfl; (with_reducible repeat (first | refine blk_drewN ?_ _ | refine blk_drew ?_ | refine blk_alloc ?_ _)); exact BK200.out⟩, ⟨by repeat (first | (with_reducible first | exact HB.out | apply below_alloc | apply pw_below_drewN | apply below_drew1 | refine below_set ?_ GE193.out | refine below_set ?_ GE200.out) | exact HB.out)⟩⟩
                    · rw [if_neg c34] at H
                      have c34b0 : (!(t198 == 0) || (!(t199 == 0))) = false := by simpa using c34
                      clear c34
                      (first | rw [c34b0] | (simp only [i64_w, i32_w]; rw [c34b0]) | skip)
                      have H' := Aside0.mk H
                      clear H
                      have hnb37 := NB200_193.out
                      have hnc37 := NB193_200.out
                      have hcz38_0 : w31.cell? ⟨gb200, 0, none⟩ = some (.int .i64 0) := (blk_cell BK200.out 0).trans rfl
                      have hcz38_1 : w31.cell? ⟨gb200, 1, none⟩ = some (.int .i64 0) := (blk_cell BK200.out 1).trans rfl
                      have hfz38_0 := blk_frozen BK200.out 0
                      have hfz38_1 := blk_frozen BK200.out 1
                      obtain ⟨Ao39, co39, eo39⟩ := Kd.R_slice HO197.out
                      subst eo39
                      go_wp2
                      repeat (go_quiet (fail); try go_wp2)
                      go_meet
                      case rel => exact ⟨_, (((t195.length : Int) != (t188.length : Int))), (by first | rfl | (simp; done) | (simp [*]; done)), H', ⟨by have := HJ2.out; have := HK2.out; first | omega | exact Nat.le_refl _⟩, ⟨by (with_reducible repeat (first | apply Kd.R_alloc | apply Kd.R_drewN | apply Kd.R_drew)); exact Kd.R_mono (Kd.R_far (p := ⟨gb200, 1, none⟩) (Kd.R_far (p := ⟨gb200, 0, none⟩) (Kd.R_types HO_5.out BK200.out (by decide)) (fun _ hk => hk.2) (.int .i64 t198)) (fun _ hk => hk.2) (.int .i64 t199)) (fun _ hk => hk.1.2)⟩, ⟨by (with_reducible repeat (first | apply Kd.R_alloc | apply Kd.R_drewN | apply Kd.R_drew)); exact Kd.R_mono (Kd.R_far (p := ⟨gb200, 1, none⟩) (Kd.R_far (p := ⟨gb200, 0, none⟩) (Kd.R_types HO197.out BK200.out (by decide)) (fun _ hk => hk.2) (.int .i64 t198)) (fun _ hk => hk.2) (.int .i64 t199)) (fun _ hk => hk.1.2)⟩, ⟨by (with_reducible repeat (first | refine blk_drewN ?_ _ | refine blk_drew ?_ | refine blk_alloc ?_ _)); refine blk_far ?_ NB193_200.out _; (with_reducible repeat (first | refine blk_drewN ?_ _ | refine blk_drew ?_ | refine blk_alloc ?_ _)); refine blk_far ?_ NB193_200.out _; (with_reducible repeat (first | refine blk_drewN ?_ _ | refine blk_drew ?_ | refine blk_alloc ?_ _)); exact BK193.out⟩, ⟨by (with_reducible repeat (first | refine blk_drewN ?_ _ | refine blk_drew ?_ | refine blk_alloc ?_ _)); refine blk_put (cs := #[.int .i64 t198, .int .i64 0]) ?_ 1 _ rfl; (with_reducible repeat (first | refine blk_drewN ?_ _ | refine blk_drew ?_ | refine blk_alloc ?_ _)); refine blk_put (cs := #[.int .i64 0, .int .i64 0]) ?_ 0 _ rfl; (with_reducible repeat (first | refine blk_drewN ?_ _ | refine blk_drew ?_ | refine blk_alloc ?_ _)); exact BK200.out⟩, ⟨by repeat (first | (with_reducible first | exact HB.out | apply below_alloc | apply pw_below_drewN | apply below_drew1 | refine below_set ?_ GE193.out | refine below_set ?_ GE200.out) | exact HB.out)⟩⟩
                  case rest =>
                    clear HC28
                    try clear c1
                    try clear p1
                    try clear q1
                    try clear hx1
                    try clear c2
                    try clear p2
                    try clear c3
                    try clear c5
                    try clear p6
                    try clear c8
                    try clear c12
                    try clear c12b0
                    try clear c12b1
                    try clear c16
                    try clear c16b0
                    try clear c17
                    try clear c17b0
                    try clear c18
                    try clear c18b0
                    try clear c19
                    try clear c19b0
                    try clear c19b1
                    try clear c19b2
                    try clear p19
                    try clear q19
                    try clear hx19
                    try clear c20
                    try clear c21
                    try clear c21b0
                    try clear c21b1
                    try clear c21b2
                    try clear c23
                    try clear c23b0
                    try clear c23b1
                    try clear c23b2
                    try clear c25
                    try clear c25b0
                    try clear c25b1
                    try clear c32
                    try clear c34
                    try clear c34b0
                    try clear c35
                    try clear c37
                    try clear hcz15_0
                    try clear hcz15_1
                    try clear hcz33_0
                    try clear hcz33_1
                    try clear hcz36_0
                    try clear hcz36_1
                    try clear hcz38_0
                    try clear hcz38_1
                    try clear hfz15_0
                    try clear hfz15_1
                    try clear hfz33_0
                    try clear hfz33_1
                    try clear hfz36_0
                    try clear hfz36_1
                    try clear hfz38_0
                    try clear hfz38_1
                    try clear hx194_0
                    try clear hx194_1
                    try clear hx194_2
                    try clear p194
                    try clear p2
                    try clear q194
                    obtain ⟨kq, x64_27, rfl, HA, HJ27, HO_5, HO_9, BK193, BK200, HB⟩ := hcut
                    cases kq with
                    | zero => exact absurd HA.out (by simp [ballcocklaw05_LexAgain.j2])
                    | succ kj27 =>
                      have H := HA.out
                      clear HA
                      simp only [ballcocklaw05_LexAgain.j2] at H
                      by_cases c40 : x64_27 = true
                      · subst c40
                        have H1 : (some false) = some r := by rw [if_pos rfl] at H; exact H
                        clear H
                        have H := H1
                        clear H1
                        subst hr_
                        exact absurd H (by simp)
                      · replace c40 := Bool.eq_false_iff.mpr c40
                        subst c40
                        have H1 : (ballcocklaw05_LexAgain.l1 kj27 t188 t195 0) = some r := by rw [if_neg (show ¬ (false = true) by decide)] at H; exact H
                        clear H
                        have H := H1
                        clear H1
                        have H' := Aside0.mk H
                        clear H
                        go_wp2
                        repeat (go_quiet (fail); try go_wp2)
                        go_loopg [11] kj27 (fun kq v11 w' => ∃ (x11_4 : Int), v11 = .int .i64 x11_4 ∧ Aside0 (ballcocklaw05_LexAgain.l1 kq t188 t195 x11_4 = some r) ∧ Aside0 (kq ≤ kj27) ∧ Aside0 (Kd.R k32 32 w' w.heap.size (fun k_ => some k_ ≠ (v196 : Value).ownBlock) (.slice Ao29 t188.length co29) t188) ∧ Aside0 (Kd.R k32 32 w' w.heap.size (fun k_ => some k_ ≠ ((.slice Ao29 t188.length co29) : Value).ownBlock) v196 t195) ∧ Aside0 (w'.heap[gb193]? = some (.cells #[.int .i64 t191, .int .i64 t192] 26 (0, 0))) ∧ Aside0 (w'.heap[gb200]? = some (.cells #[.int .i64 t198, .int .i64 t199] 26 (0, 0))) ∧ Aside0 (Below w.heap.size w w'))
                        case atStart => exact ⟨(0), (by first | rfl | (simp; done) | (simp [*]; done)), H', ⟨Nat.le_refl _⟩, ⟨by (with_reducible repeat (first | apply Kd.R_alloc | apply Kd.R_drewN | apply Kd.R_drew)); exact HO_5.out⟩, ⟨by (with_reducible repeat (first | apply Kd.R_alloc | apply Kd.R_drewN | apply Kd.R_drew)); exact HO_9.out⟩, ⟨by (with_reducible repeat (first | refine blk_drewN ?_ _ | refine blk_drew ?_ | refine blk_alloc ?_ _)); exact BK193.out⟩, ⟨by (with_reducible repeat (first | refine blk_drewN ?_ _ | refine blk_drew ?_ | refine blk_alloc ?_ _)); exact BK200.out⟩, ⟨by repeat (first | (with_reducible first | exact HB.out | apply below_alloc | apply pw_below_drewN | apply below_drew1 | refine below_set ?_ GE193.out | refine below_set ?_ GE200.out) | exact HB.out)⟩⟩
                        case round =>
                          clear H'
                          try clear c1
                          try clear p1
                          try clear q1
                          try clear hx1
                          try clear c2
                          try clear p2
                          try clear c3
                          try clear c4
                          try clear c5
                          try clear p6
                          try clear c8
                          try clear c12
                          try clear c12b0
                          try clear c12b1
                          try clear c16
                          try clear c16b0
                          try clear c17
                          try clear c17b0
                          try clear c18
                          try clear c18b0
                          try clear c19
                          try clear c19b0
                          try clear c19b1
                          try clear c19b2
                          try clear p19
                          try clear q19
                          try clear hx19
                          try clear c20
                          try clear c21
                          try clear c21b0
                          try clear c21b1
                          try clear c21b2
                          try clear c23
                          try clear c23b0
                          try clear c23b1
                          try clear c23b2
                          try clear c25
                          try clear c25b0
                          try clear c25b1
                          try clear c32
                          try clear c34
                          try clear c34b0
                          try clear c35
                          try clear c37
                          try clear c40
                          try clear hcz15_0
                          try clear hcz15_1
                          try clear hcz33_0
                          try clear hcz33_1
                          try clear hcz36_0
                          try clear hcz36_1
                          try clear hcz38_0
                          try clear hcz38_1
                          try clear hfz15_0
                          try clear hfz15_1
                          try clear hfz33_0
                          try clear hfz33_1
                          try clear hfz36_0
                          try clear hfz36_1
                          try clear hfz38_0
                          try clear hfz38_1
                          try clear hx194_0
                          try clear hx194_1
                          try clear hx194_2
                          try clear p1
                          try clear p19
                          try clear p194
                          try clear p2
                          try clear p6
                          try clear q1
                          try clear q19
                          try clear q194
                          obtain ⟨x11_4, rfl, HA, HK4, HO_5, HO_9, BK193, BK200, HB⟩ := hrel
                          cases gk with
                          | zero => exact absurd HA.out (by simp [ballcocklaw05_LexAgain.l1])
                          | succ k4 =>
                            have H := HA.out
                            clear HA
                            simp only [ballcocklaw05_LexAgain.l1] at H
                            by_cases c41 : x11_4 < (t188.length : Int)
                            · rw [if_pos c41] at H
                              have c41b0 : decide (x11_4 < (t188.length : Int)) = true := decide_eq_true c41
                              clear c41
                              have HC42 := Aside0.mk H
                              clear H
                              go_upto_region 22 with (fail)
                              repeat (go_quiet (fail); go_upto_region 22 with (fail))
                              go_cut [94] (fun v94 wc => ∃ (kq : Nat) (x94_41 : Bool), v94 = .bool x94_41 ∧ Aside0 (ballcocklaw05_LexAgain.j4 kq t188 t195 x11_4 x94_41 = some r) ∧ Aside0 (kq ≤ k4) ∧ Aside0 (Kd.R k32 32 wc w.heap.size (fun k_ => some k_ ≠ (v196 : Value).ownBlock) (.slice Ao29 t188.length co29) t188) ∧ Aside0 (Kd.R k32 32 wc w.heap.size (fun k_ => some k_ ≠ ((.slice Ao29 t188.length co29) : Value).ownBlock) v196 t195) ∧ Aside0 (wc.heap[gb193]? = some (.cells #[.int .i64 t191, .int .i64 t192] 26 (0, 0))) ∧ Aside0 (wc.heap[gb200]? = some (.cells #[.int .i64 t198, .int .i64 t199] 26 (0, 0))) ∧ Aside0 (Below w.heap.size w wc))
                              case first =>
                                have H := HC42.out
                                clear HC42
                                by_cases c43 : 0 ≤ x11_4
                                · rw [if_pos c43] at H
                                  have c43b0 : decide (0 ≤ x11_4) = true := decide_eq_true c43
                                  clear c43
                                  (first | rw [c43b0] | (simp only [i64_w, i32_w]; rw [c43b0]) | skip)
                                  by_cases c44 : x11_4 < (t195.length : Int)
                                  · rw [if_pos c44] at H
                                    have c44b0 : decide (x11_4 < (t195.length : Int)) = true := decide_eq_true c44
                                    clear c44
                                    by_cases c45 : ((rd_T32 t195 x11_4).f0) = ((rd_T32 t188 x11_4).f0)
                                    · rw [if_pos c45] at H
                                      have c45b0 : (((rd_T32 t195 x11_4).f0) == ((rd_T32 t188 x11_4).f0)) = true := beq_iff_eq.mpr c45
                                      have c45b1 : (((rd_T32 t195 x11_4).f0) != ((rd_T32 t188 x11_4).f0)) = false := bne_eq_false_iff_eq.mpr c45
                                      clear c45
                                      have H' := Aside0.mk H
                                      clear H
                                      obtain ⟨Ao46, co46, eo46⟩ := Kd.R_slice HO_9.out
                                      subst eo46
                                      have p201 : 0 ≤ (x11_4 : Int) := of_decide_eq_true (by first | (with_reducible assumption) | assumption)
                                      have q201 : x11_4 < (t195.length : Int) := of_decide_eq_true (by first | (with_reducible assumption) | assumption)
                                      obtain ⟨ad201, e201, hx201_0, hx201_1, hx201_2⟩ := at_T32 (Kd.R_reads' HO_9.out).2.2 x11_4 p201 q201
                                      cases e201
                                      replace p201 := eq_true p201
                                      replace q201 := eq_true q201
                                      have p202 : 0 ≤ (x11_4 : Int) := of_decide_eq_true (by first | (with_reducible assumption) | assumption)
                                      have q202 : x11_4 < (t188.length : Int) := of_decide_eq_true (by first | (with_reducible assumption) | assumption)
                                      obtain ⟨ad202, e202, hx202_0, hx202_1, hx202_2⟩ := at_T32 (Kd.R_reads' HO_5.out).2.2 x11_4 p202 q202
                                      cases e202
                                      replace p202 := eq_true p202
                                      replace q202 := eq_true q202
                                      have p203 : 0 ≤ (x11_4 : Int) := of_decide_eq_true (by first | (with_reducible assumption) | assumption)
                                      have q203 : x11_4 < (t195.length : Int) := of_decide_eq_true (by first | (with_reducible assumption) | assumption)
                                      obtain ⟨ad203, e203, hx203_0, hx203_1, hx203_2⟩ := at_T32 (Kd.R_reads' HO_9.out).2.2 x11_4 p203 q203
                                      obtain rfl : ad201 = ad203 := (by injection e203)
                                      replace p203 := eq_true p203
                                      replace q203 := eq_true q203
                                      have p204 : 0 ≤ (x11_4 : Int) := of_decide_eq_true (by first | (with_reducible assumption) | assumption)
                                      have q204 : x11_4 < (t188.length : Int) := of_decide_eq_true (by first | (with_reducible assumption) | assumption)
                                      obtain ⟨ad204, e204, hx204_0, hx204_1, hx204_2⟩ := at_T32 (Kd.R_reads' HO_5.out).2.2 x11_4 p204 q204
                                      obtain rfl : ad202 = ad204 := (by injection e204)
                                      replace p204 := eq_true p204
                                      replace q204 := eq_true q204
                                      go_wp2
                                      repeat (go_quiet (fail); try go_wp2)
                                      go_meet
                                      case rel => exact ⟨_, ((((rd_T32 t195 x11_4).f1).toList != ((rd_T32 t188 x11_4).f1).toList)), (by first | rfl | (simp; done) | (simp [*]; done)), H', ⟨by have := HJ2.out; have := HK2.out; have := HJ27.out; have := HK4.out; first | omega | exact Nat.le_refl _⟩, ⟨by (with_reducible repeat (first | apply Kd.R_alloc | apply Kd.R_drewN | apply Kd.R_drew)); exact HO_5.out⟩, ⟨by (with_reducible repeat (first | apply Kd.R_alloc | apply Kd.R_drewN | apply Kd.R_drew)); exact HO_9.out⟩, ⟨by (with_reducible repeat (first | refine blk_drewN ?_ _ | refine blk_drew ?_ | refine blk_alloc ?_ _)); exact BK193.out⟩, ⟨by (with_reducible repeat (first | refine blk_drewN ?_ _ | refine blk_drew ?_ | refine blk_alloc ?_ _)); exact BK200.out⟩, ⟨by repeat (first | (with_reducible first | exact HB.out | apply below_alloc | apply pw_below_drewN | apply below_drew1 | refine below_set ?_ GE193.out | refine below_set ?_ GE200.out) | exact HB.out)⟩⟩
                                    · rw [if_neg c45] at H
                                      have c45b0 : (((rd_T32 t195 x11_4).f0) == ((rd_T32 t188 x11_4).f0)) = false := beq_eq_false_iff_ne.mpr c45
                                      have c45b1 : (((rd_T32 t195 x11_4).f0) != ((rd_T32 t188 x11_4).f0)) = true := bne_iff_ne.mpr c45
                                      have H' := Aside0.mk H
                                      clear H
                                      obtain ⟨Ao47, co47, eo47⟩ := Kd.R_slice HO_9.out
                                      subst eo47
                                      have p201 : 0 ≤ (x11_4 : Int) := of_decide_eq_true (by first | (with_reducible assumption) | assumption)
                                      have q201 : x11_4 < (t195.length : Int) := of_decide_eq_true (by first | (with_reducible assumption) | assumption)
                                      obtain ⟨ad201, e201, hx201_0, hx201_1, hx201_2⟩ := at_T32 (Kd.R_reads' HO_9.out).2.2 x11_4 p201 q201
                                      cases e201
                                      replace p201 := eq_true p201
                                      replace q201 := eq_true q201
                                      have p202 : 0 ≤ (x11_4 : Int) := of_decide_eq_true (by first | (with_reducible assumption) | assumption)
                                      have q202 : x11_4 < (t188.length : Int) := of_decide_eq_true (by first | (with_reducible assumption) | assumption)
                                      obtain ⟨ad202, e202, hx202_0, hx202_1, hx202_2⟩ := at_T32 (Kd.R_reads' HO_5.out).2.2 x11_4 p202 q202
                                      cases e202
                                      replace p202 := eq_true p202
                                      replace q202 := eq_true q202
                                      go_wp2
                                      repeat (go_quiet (fail); try go_wp2)
                                      go_meet
                                      case rel => exact ⟨_, (true), (by first | rfl | (simp; done) | (simp [*]; done)), H', ⟨by have := HJ2.out; have := HK2.out; have := HJ27.out; have := HK4.out; first | omega | exact Nat.le_refl _⟩, ⟨by (with_reducible repeat (first | apply Kd.R_alloc | apply Kd.R_drewN | apply Kd.R_drew)); exact HO_5.out⟩, ⟨by (with_reducible repeat (first | apply Kd.R_alloc | apply Kd.R_drewN | apply Kd.R_drew)); exact HO_9.out⟩, ⟨by (with_reducible repeat (first | refine blk_drewN ?_ _ | refine blk_drew ?_ | refine blk_alloc ?_ _)); exact BK193.out⟩, ⟨by (with_reducible repeat (first | refine blk_drewN ?_ _ | refine blk_drew ?_ | refine blk_alloc ?_ _)); exact BK200.out⟩, ⟨by repeat (first | (with_reducible first | exact HB.out | apply below_alloc | apply pw_below_drewN | apply below_drew1 | refine below_set ?_ GE193.out | refine below_set ?_ GE200.out) | exact HB.out)⟩⟩
                                  · rw [if_neg c44] at H
                                    exact absurd H (by simp)
                                · rw [if_neg c43] at H
                                  exact absurd H (by simp)
                              case rest =>
                                clear HC42
                                try clear c1
                                try clear p1
                                try clear q1
                                try clear hx1
                                try clear c2
                                try clear p2
                                try clear q2
                                try clear hx2
                                try clear c3
                                try clear c4
                                try clear c5
                                try clear p6
                                try clear c8
                                try clear c12
                                try clear c12b0
                                try clear c12b1
                                try clear c16
                                try clear c16b0
                                try clear c17
                                try clear c17b0
                                try clear c18
                                try clear c18b0
                                try clear c19
                                try clear c19b0
                                try clear c19b1
                                try clear c19b2
                                try clear p19
                                try clear q19
                                try clear hx19
                                try clear c20
                                try clear p20
                                try clear q20
                                try clear hx20
                                try clear c21
                                try clear c21b0
                                try clear c21b1
                                try clear c21b2
                                try clear c23
                                try clear c23b0
                                try clear c23b1
                                try clear c23b2
                                try clear c25
                                try clear c25b0
                                try clear c25b1
                                try clear c32
                                try clear c34
                                try clear c34b0
                                try clear c35
                                try clear c37
                                try clear c40
                                try clear c41
                                try clear c41b0
                                try clear c43
                                try clear c43b0
                                try clear c44
                                try clear c44b0
                                try clear c45
                                try clear c45b0
                                try clear c45b1
                                try clear hcz15_0
                                try clear hcz15_1
                                try clear hcz33_0
                                try clear hcz33_1
                                try clear hcz36_0
                                try clear hcz36_1
                                try clear hcz38_0
                                try clear hcz38_1
                                try clear hfz15_0
                                try clear hfz15_1
                                try clear hfz33_0
                                try clear hfz33_1
                                try clear hfz36_0
                                try clear hfz36_1
                                try clear hfz38_0
                                try clear hfz38_1
                                try clear hx194_0
                                try clear hx194_1
                                try clear hx194_2
                                try clear hx201_0
                                try clear hx201_1
                                try clear hx201_2
                                try clear hx202_0
                                try clear hx202_1
                                try clear hx202_2
                                try clear hx203_0
                                try clear hx203_1
                                try clear hx203_2
                                try clear hx204_0
                                try clear hx204_1
                                try clear hx204_2
                                try clear p1
                                try clear p19
                                try clear p194
                                try clear p2
                                try clear p201
                                try clear p202
                                try clear p203
                                try clear p204
                                try clear p6
                                try clear q1
                                try clear q19
                                try clear q194
                                try clear q201
                                try clear q202
                                try clear q203
                                try clear q204
                                obtain ⟨kq, x94_41, rfl, HA, HJ41, HO_5, HO_9, BK193, BK200, HB⟩ := hcut
                                cases kq with
                                | zero => exact absurd HA.out (by simp [ballcocklaw05_LexAgain.j4])
                                | succ kj41 =>
                                  have H := HA.out
                                  clear HA
                                  simp only [ballcocklaw05_LexAgain.j4] at H
                                  by_cases c48 : x94_41 = true
                                  · subst c48
                                    have H1 : (some false) = some r := by rw [if_pos rfl] at H; exact H
                                    clear H
                                    have H := H1
                                    clear H1
                                    subst hr_
                                    exact absurd H (by simp)
                                  · replace c48 := Bool.eq_false_iff.mpr c48
                                    subst c48
                                    have H1 : (ballcocklaw05_LexAgain.l1 kj41 t188 t195 (wrap64 (x11_4 + 1))) = some r := by rw [if_neg (show ¬ (false = true) by decide)] at H; exact H
                                    clear H
                                    have H := H1
                                    clear H1
                                    have H' := Aside0.mk H
                                    clear H
                                    go_wp2
                                    repeat (go_quiet (fail); try go_wp2)
                                    go_roundg kj41
                                    case measure => have := HJ2.out; have := HK2.out; have := HJ27.out; have := HK4.out; have := HJ41.out; omega
                                    case rel => exact ⟨(wrap64 (x11_4 + 1)), (by first | rfl | (simp; done) | (simp [*]; done)), H', ⟨by have := HJ2.out; have := HK2.out; have := HJ27.out; have := HK4.out; have := HJ41.out; omega⟩, ⟨by (with_reducible repeat (first | apply Kd.R_alloc | apply Kd.R_drewN | apply Kd.R_drew)); exact HO_5.out⟩, ⟨by (with_reducible repeat (first | apply Kd.R_alloc | apply Kd.R_drewN | apply Kd.R_drew)); exact HO_9.out⟩, ⟨by (with_reducible repeat (first | refine blk_drewN ?_ _ | refine blk_drew ?_ | refine blk_alloc ?_ _)); exact BK193.out⟩, ⟨by (with_reducible repeat (first | refine blk_drewN ?_ _ | refine blk_drew ?_ | refine blk_alloc ?_ _)); exact BK200.out⟩, ⟨by repeat (first | (with_reducible first | exact HB.out | apply below_alloc | apply pw_below_drewN | apply below_drew1 | refine below_set ?_ GE193.out | refine below_set ?_ GE200.out) | exact HB.out)⟩⟩
                            · rw [if_neg c41] at H
                              have c41b0 : decide (x11_4 < (t188.length : Int)) = false := decide_eq_false c41
                              clear c41
                              obtain rfl := Option.some.inj H
                              go_wp2
                              repeat (go_quiet (fail); try go_wp2)
                              go_ret
                              exact ⟨by first | rfl | (simp [errW_none, errW_some] <;> rfl) | (simp [*, errW_none, errW_some] <;> rfl), by repeat (first | (with_reducible first | exact HB.out | apply below_alloc | apply pw_below_drewN | apply below_drew1 | refine below_set ?_ GE193.out | refine below_set ?_ GE200.out) | exact HB.out)⟩
        · rw [if_neg c12] at H
          have c12b0 : (t191 == 0) = false := beq_eq_false_iff_ne.mpr c12
          have c12b1 : (t191 != 0) = true := bne_iff_ne.mpr c12
          obtain rfl := Option.some.inj H
          go_wp2_with (first | (go_at_call 15; (with_reducible refine (ballcockref05_Tokens.calls kj2 a0 t188 t191 t192 _ A11.out).mono ?_); rintro e w49 ⟨v189, rfl, ho0, hb⟩; have n0_ := Aside0.mk (Kd.R_lower ho0 (below_size (by repeat (first | (with_reducible first | exact HB.out | apply below_alloc | apply pw_below_drewN | apply below_drew1) | exact HB.out)))); have n1_ := Aside0.mk (below_step (by repeat (first | (with_reducible first | exact HB.out | apply below_alloc | apply pw_below_drewN | apply below_drew1) | exact HB.out)) hb); clear HB; have HO190 := n0_; have HB := n1_; clear n0_ n1_; (try clear hb); (try clear hb2); (try clear hk); (try clear hi); (try clear ho0)) | ((with_reducible refine gate_dst (N := 6) rfl ?_); (try (refine gate_guard (by rfl) ?_; dsimp only)); refine box_event ?hg (N := 6) ?hd (cs := #[.int .i64 0, .int .i64 0]) (t := 26) ?hr ?_; (case hd => rfl); (case hg => rfl); (case hr => first | (go_simp; done) | (go_simp; rfl)); intro gb193 hg w50 hbox hb; have n0_ := Aside0.mk (Kd.R_below (by (with_reducible repeat (first | apply Kd.R_alloc | apply Kd.R_drewN | apply Kd.R_drew)); exact HO190.out) hb); have n1_ := Aside0.mk (below_step (by repeat (first | (with_reducible first | exact HB.out | apply below_alloc | apply pw_below_drewN | apply below_drew1) | exact HB.out)) hb); have n2_ := Aside0.mk (hbox); have n3_ := Aside0.mk ((by rw [hg]; exact (below_size (by repeat (first | (with_reducible first | exact HB.out | apply below_alloc | apply pw_below_drewN | apply below_drew1) | exact HB.out))) : w.heap.size ≤ gb193)); have n4_ := Aside0.mk ((by rw [hg]; exact (below_size (by repeat (first | (with_reducible first | exact HB.out | apply below_alloc | apply pw_below_drewN | apply below_drew1) | exact HB.out))) : w.heap.size ≤ gb193)); clear HO190; clear HB; have HO190 := n0_; have HB := n1_; have BK193 := n2_; have GW193 := n3_; have GE193 := n4_; clear n0_ n1_ n2_ n3_ n4_; clear hb hbox hg; have hcz51_0 : w50.cell? ⟨gb193, 0, none⟩ = some (.int .i64 0) := (blk_cell BK193.out 0).trans rfl; have hcz51_1 : w50.cell? ⟨gb193, 1, none⟩ = some (.int .i64 0) := (blk_cell BK193.out 1).trans rfl; have hfz51_0 := blk_frozen BK193.out 0; have hfz51_1 := blk_frozen BK193.out 1))
          repeat (go_quiet (first | (go_at_call 15; (with_reducible refine (ballcockref05_Tokens.calls kj2 a0 t188 t191 t192 _ A11.out).mono ?_); rintro e w49 ⟨v189, rfl, ho0, hb⟩; have n0_ := Aside0.mk (Kd.R_lower ho0 (below_size (by repeat (first | (with_reducible first | exact HB.out | apply below_alloc | apply pw_below_drewN | apply below_drew1) | exact HB.out)))); have n1_ := Aside0.mk (below_step (by repeat (first | (with_reducible first | exact HB.out | apply below_alloc | apply pw_below_drewN | apply below_drew1) | exact HB.out)) hb); clear HB; have HO190 := n0_; have HB := n1_; clear n0_ n1_; (try clear hb); (try clear hb2); (try clear hk); (try clear hi); (try clear ho0)) | ((with_reducible refine gate_dst (N := 6) rfl ?_); (try (refine gate_guard (by rfl) ?_; dsimp only)); refine box_event ?hg (N := 6) ?hd (cs := #[.int .i64 0, .int .i64 0]) (t := 26) ?hr ?_; (case hd => rfl); (case hg => rfl); (case hr => first | (go_simp; done) | (go_simp; rfl)); intro gb193 hg w50 hbox hb; have n0_ := Aside0.mk (Kd.R_below (by (with_reducible repeat (first | apply Kd.R_alloc | apply Kd.R_drewN | apply Kd.R_drew)); exact HO190.out) hb); have n1_ := Aside0.mk (below_step (by repeat (first | (with_reducible first | exact HB.out | apply below_alloc | apply pw_below_drewN | apply below_drew1) | exact HB.out)) hb); have n2_ := Aside0.mk (hbox); have n3_ := Aside0.mk ((by rw [hg]; exact (below_size (by repeat (first | (with_reducible first | exact HB.out | apply below_alloc | apply pw_below_drewN | apply below_drew1) | exact HB.out))) : w.heap.size ≤ gb193)); have n4_ := Aside0.mk ((by rw [hg]; exact (below_size (by repeat (first | (with_reducible first | exact HB.out | apply below_alloc | apply pw_below_drewN | apply below_drew1) | exact HB.out))) : w.heap.size ≤ gb193)); clear HO190; clear HB; have HO190 := n0_; have HB := n1_; have BK193 := n2_; have GW193 := n3_; have GE193 := n4_; clear n0_ n1_ n2_ n3_ n4_; clear hb hbox hg; have hcz51_0 : w50.cell? ⟨gb193, 0, none⟩ = some (.int .i64 0) := (blk_cell BK193.out 0).trans rfl; have hcz51_1 : w50.cell? ⟨gb193, 1, none⟩ = some (.int .i64 0) := (blk_cell BK193.out 1).trans rfl; have hfz51_0 := blk_frozen BK193.out 0; have hfz51_1 := blk_frozen BK193.out 1)); try go_wp2_with (first | (go_at_call 15; (with_reducible refine (ballcockref05_Tokens.calls kj2 a0 t188 t191 t192 _ A11.out).mono ?_); rintro e w49 ⟨v189, rfl, ho0, hb⟩; have n0_ := Aside0.mk (Kd.R_lower ho0 (below_size (by repeat (first | (with_reducible first | exact HB.out | apply below_alloc | apply pw_below_drewN | apply below_drew1) | exact HB.out)))); have n1_ := Aside0.mk (below_step (by repeat (first | (with_reducible first | exact HB.out | apply below_alloc | apply pw_below_drewN | apply below_drew1) | exact HB.out)) hb); clear HB; have HO190 := n0_; have HB := n1_; clear n0_ n1_; (try clear hb); (try clear hb2); (try clear hk); (try clear hi); (try clear ho0)) | ((with_reducible refine gate_dst (N := 6) rfl ?_); (try (refine gate_guard (by rfl) ?_; dsimp only)); refine box_event ?hg (N := 6) ?hd (cs := #[.int .i64 0, .int .i64 0]) (t := 26) ?hr ?_; (case hd => rfl); (case hg => rfl); (case hr => first | (go_simp; done) | (go_simp; rfl)); intro gb193 hg w50 hbox hb; have n0_ := Aside0.mk (Kd.R_below (by (with_reducible repeat (first | apply Kd.R_alloc | apply Kd.R_drewN | apply Kd.R_drew)); exact HO190.out) hb); have n1_ := Aside0.mk (below_step (by repeat (first | (with_reducible first | exact HB.out | apply below_alloc | apply pw_below_drewN | apply below_drew1) | exact HB.out)) hb); have n2_ := Aside0.mk (hbox); have n3_ := Aside0.mk ((by rw [hg]; exact (below_size (by repeat (first | (with_reducible first | exact HB.out | apply below_alloc | apply pw_below_drewN | apply below_drew1) | exact HB.out))) : w.heap.size ≤ gb193)); have n4_ := Aside0.mk ((by rw [hg]; exact (below_size (by repeat (first | (with_reducible first | exact HB.out | apply below_alloc | apply pw_below_drewN | apply below_drew1) | exact HB.out))) : w.heap.size ≤ gb193)); clear HO190; clear HB; have HO190 := n0_; have HB := n1_; have BK193 := n2_; have GW193 := n3_; have GE193 := n4_; clear n0_ n1_ n2_ n3_ n4_; clear hb hbox hg; have hcz51_0 : w50.cell? ⟨gb193, 0, none⟩ = some (.int .i64 0) := (blk_cell BK193.out 0).trans rfl; have hcz51_1 : w50.cell? ⟨gb193, 1, none⟩ = some (.int .i64 0) := (blk_cell BK193.out 1).trans rfl; have hfz51_0 := blk_frozen BK193.out 0; have hfz51_1 := blk_frozen BK193.out 1)))
          go_ret
          exact ⟨by first | rfl | (simp [errW_none, errW_some] <;> rfl) | (simp [*, errW_none, errW_some] <;> rfl), by repeat (first | (with_reducible first | exact HB.out | apply below_alloc | apply pw_below_drewN | apply below_drew1 | refine below_set ?_ GE193.out) | exact HB.out)⟩

/-- THE ONE PURE STATEMENT of ballcocklaw05_LexAgain: yours. -/
def ballcocklaw05_LexAgain.Pure : Prop := ∀ (a0 : ByteArray) (a1 : Bool), a0.size ≤ 140737488351232 → ∃ k, ballcocklaw05_LexAgain.f k a0 a1 = some true
theorem ballcocklaw05_LexAgain.walk (P : ballcocklaw05_LexAgain.Pure) (a0 : ByteArray) (a1 : Bool) (w : World) (w0 : a0.size ≤ 140737488351232) :
    Calls Tryd.prog 5 #[.string a0, .bool a1] w fun e w' => e = .returned (.bool true) ∧ Below w.heap.size w w' := by
  obtain ⟨k, h⟩ := P a0 a1 w0
  refine (ballcocklaw05_LexAgain.calls k a0 a1 true w rfl h).mono ?_
  rintro e w' ⟨rfl, hd⟩
  exact ⟨rfl, hd⟩

end Go.Proofs.YtifjmokilbijlaaDoor.PLex
