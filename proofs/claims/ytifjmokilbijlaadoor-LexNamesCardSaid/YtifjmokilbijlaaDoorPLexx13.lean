-- Written by a program of this session (wip/myprint.py).
import Derived.Test.YtifjmokilbijlaaDoorPLexx0
import Derived.Test.YtifjmokilbijlaaDoorPLexx7
import Derived.Test.YtifjmokilbijlaaDoorPLexx11
import Derived.Test.YtifjmokilbijlaaDoorPLexx12
namespace Go.Proofs.YtifjmokilbijlaaDoor.PLex
open Go.RowKit Go.Proofs.YtifjmokilbijlaaDoorW.PrintWords Go.Proofs.YtifjmokilbijlaaDoorW.PrintLast Go.Proofs.YtifjmokilbijlaaDoorW.PrintMore
attribute [local go_sem] max2_int min2_int max_two min_two max_three min_three max_four min_four   -- for this text's walks alone
set_option linter.unusedVariables false
set_option linter.unusedSimpArgs false

/-! ### ballcocklaw05_LexNames: function 4 -/
def ballcocklaw05_LexNames.j0 : Nat → ByteArray → Bool → Option (Bool)
  | 0, _, _ => none
  | k + 1, x0, x9 => if x9 = true then ((ballcocklaw05_awake.f).bind fun t179 => (some t179)) else ((lex_Key.f x0).bind fun t180 => ((ballcockref05_Key.f k x0).bind fun t181 => (if (t180 == t181) = true then ((lex_Name.f x0).bind fun t182 => ((ballcockref05_Name.f k x0).bind fun t183 => (if (t182 == t183) = true then ((lex_Key.f x0).bind fun t184 => (if t184 = true then ((lex_Name.f x0).bind fun t185 => (some (!t185))) else (some (!false)))) else (some false)))) else (some false))))
def ballcocklaw05_LexNames.f (k : Nat) (a0 : ByteArray) : Option (Bool) := (ballcocklaw05_awake.f).bind fun t178 => (if t178 = true then (ballcocklaw05_LexNames.j0 k a0 (decide ((a0.size : Int) > 200))) else (ballcocklaw05_LexNames.j0 k a0 true))
theorem ballcocklaw05_LexNames.mono_l : ∀ k, (∀ y0 y1, LeO (ballcocklaw05_LexNames.j0 k y0 y1) (ballcocklaw05_LexNames.j0 (k + 1) y0 y1))
  | 0 => fun _ _ r h => by simp [ballcocklaw05_LexNames.j0] at h
  | k + 1 => by
    have ih0 := ballcocklaw05_LexNames.mono_l k
    · intro y0 y1
      unfold ballcocklaw05_LexNames.j0
      repeat' first
      | (with_reducible exact ih0 _ _)
      | (with_reducible exact ballcockref05_Key.mono _ _)
      | (with_reducible exact ballcockref05_Name.mono _ _)
      | (with_reducible exact LeO.refl _)
      | (with_reducible exact LeO.none _)
      | (with_reducible refine LeO.ite ?_ ?_)
      | (with_reducible refine LeO.bind ?_ (fun _ => ?_))
      | exact ih0 _ _
      | exact ballcockref05_Key.mono _ _
      | exact ballcockref05_Name.mono _ _
      | exact LeO.none _
      | refine LeO.ite ?_ ?_
      | refine LeO.bind ?_ (fun _ => ?_)
theorem ballcocklaw05_LexNames.mono : ∀ a0 k, LeO (ballcocklaw05_LexNames.f k a0) (ballcocklaw05_LexNames.f (k + 1) a0) := by
  intro a0 k
  have ih0 := ballcocklaw05_LexNames.mono_l k
  unfold ballcocklaw05_LexNames.f
  repeat' first
      | (with_reducible exact ih0 _ _)
      | (with_reducible exact ballcockref05_Key.mono _ _)
      | (with_reducible exact ballcockref05_Name.mono _ _)
      | (with_reducible exact LeO.refl _)
      | (with_reducible exact LeO.none _)
      | (with_reducible refine LeO.ite ?_ ?_)
      | (with_reducible refine LeO.bind ?_ (fun _ => ?_))
      | exact ih0 _ _
      | exact ballcockref05_Key.mono _ _
      | exact ballcockref05_Name.mono _ _
      | exact LeO.none _
      | refine LeO.ite ?_ ?_
      | refine LeO.bind ?_ (fun _ => ?_)
set_option maxHeartbeats 8000000 in
set_option maxRecDepth 100000 in
theorem ballcocklaw05_LexNames.calls (k : Nat) (a0 : ByteArray) (r : Bool) (w : World) (hr_ : r = true) (h : ballcocklaw05_LexNames.f k a0 = some r) :
    Calls Tryd.prog 4 #[.string a0] w fun e w' => e = .returned (.bool r) ∧ Below w.heap.size w w' := by
  have HB := Aside0.mk (Below.refl w.heap.size w)
  have H : ((ballcocklaw05_awake.f).bind fun t178 => (if t178 = true then (ballcocklaw05_LexNames.j0 k a0 (decide ((a0.size : Int) > 200))) else (ballcocklaw05_LexNames.j0 k a0 true))) = some r := h
  clear h
  have HC2 := Aside0.mk H
  clear H
  go_enter Tryd.func4, Tryd.ntmps4
  go_upto_region 1 with (fail)
  go_cut [9] (fun v9 wc => ∃ (kq : Nat) (x9_1 : Bool), v9 = .bool x9_1 ∧ Aside0 (ballcocklaw05_LexNames.j0 kq a0 x9_1 = some r) ∧ Aside0 (kq ≤ k) ∧ Aside0 (Below w.heap.size w wc))
  case first =>
    have H := HC2.out
    clear HC2
    replace H := Option.bind_eq_some_iff.mp H
    obtain ⟨t178, A30, H⟩ := H
    replace H : (if t178 = true then (ballcocklaw05_LexNames.j0 k a0 (decide ((a0.size : Int) > 200))) else (ballcocklaw05_LexNames.j0 k a0 true)) = some r := H
    have A3 := Aside0.mk A30
    clear A30
    by_cases c4 : t178 = true
    · subst c4
      have H1 : (ballcocklaw05_LexNames.j0 k a0 (decide ((a0.size : Int) > 200))) = some r := by rw [if_pos rfl] at H; exact H
      clear H
      have H := H1
      clear H1
      have H' := Aside0.mk H
      clear H
      go_wp2_with (first | ((with_reducible refine gate_callee (f := 13) rfl ?_); refine goesL_ (some 3) rfl rfl Tryd.func13 (by kernel_rfl) rfl #[] rfl (by (try simp only [List.map_toArray, List.map_cons, List.map_nil]); first | done | rfl | (simp only [List.length_drop, List.length_take]; rfl)) ?_; (with_reducible refine (ballcocklaw05_awake.calls  true _ A3.out).mono ?_); rintro e w5 ⟨rfl, hb⟩; refine ⟨_, rfl, ?_⟩; have n0_ := Aside0.mk (below_step (by repeat (first | (with_reducible first | exact HB.out | apply below_alloc | apply pw_below_drewN | apply below_drew1) | exact HB.out)) hb); clear HB; have HB := n0_; clear n0_; (try clear hb); (try clear hb2); (try clear hk); (try clear hi)))
      go_meet
      case rel => exact ⟨_, (decide ((a0.size : Int) > 200)), (by first | rfl | (simp; done) | (simp [*]; done)), H', ⟨by first | omega | exact Nat.le_refl _⟩, ⟨by repeat (first | (with_reducible first | exact HB.out | apply below_alloc | apply pw_below_drewN | apply below_drew1) | exact HB.out)⟩⟩
    · replace c4 := Bool.eq_false_iff.mpr c4
      subst c4
      have H1 : (ballcocklaw05_LexNames.j0 k a0 true) = some r := by rw [if_neg (show ¬ (false = true) by decide)] at H; exact H
      clear H
      have H := H1
      clear H1
      have H' := Aside0.mk H
      clear H
      go_wp2_with (first | ((with_reducible refine gate_callee (f := 13) rfl ?_); refine goesL_ (some 3) rfl rfl Tryd.func13 (by kernel_rfl) rfl #[] rfl (by (try simp only [List.map_toArray, List.map_cons, List.map_nil]); first | done | rfl | (simp only [List.length_drop, List.length_take]; rfl)) ?_; (with_reducible refine (ballcocklaw05_awake.calls  false _ A3.out).mono ?_); rintro e w6 ⟨rfl, hb⟩; refine ⟨_, rfl, ?_⟩; have n0_ := Aside0.mk (below_step (by repeat (first | (with_reducible first | exact HB.out | apply below_alloc | apply pw_below_drewN | apply below_drew1) | exact HB.out)) hb); clear HB; have HB := n0_; clear n0_; (try clear hb); (try clear hb2); (try clear hk); (try clear hi)))
      go_meet
      case rel => exact ⟨_, (true), (by first | rfl | (simp; done) | (simp [*]; done)), H', ⟨by first | omega | exact Nat.le_refl _⟩, ⟨by repeat (first | (with_reducible first | exact HB.out | apply below_alloc | apply pw_below_drewN | apply below_drew1) | exact HB.out)⟩⟩
  case rest =>
    clear HC2
    try clear c1
    try clear p2
    try clear c4
    obtain ⟨kq, x9_1, rfl, HA, HJ1, HB⟩ := hcut
    cases kq with
    | zero => exact absurd HA.out (by simp [ballcocklaw05_LexNames.j0])
    | succ kj1 =>
      have H := HA.out
      clear HA
      simp only [ballcocklaw05_LexNames.j0] at H
      by_cases c7 : x9_1 = true
      · subst c7
        have H1 : ((ballcocklaw05_awake.f).bind fun t179 => (some t179)) = some r := by rw [if_pos rfl] at H; exact H
        clear H
        have H := H1
        clear H1
        replace H := Option.bind_eq_some_iff.mp H
        obtain ⟨t179, A80, H⟩ := H
        replace H : (some t179) = some r := H
        have A8 := Aside0.mk A80
        clear A80
        obtain rfl := Option.some.inj H
        go_wp2_with (first | ((with_reducible refine gate_callee (f := 13) rfl ?_); refine goesL_ (some 10) rfl rfl Tryd.func13 (by kernel_rfl) rfl #[] rfl (by (try simp only [List.map_toArray, List.map_cons, List.map_nil]); first | done | rfl | (simp only [List.length_drop, List.length_take]; rfl)) ?_; (with_reducible refine (ballcocklaw05_awake.calls  t179 _ A8.out).mono ?_); rintro e w9 ⟨rfl, hb⟩; refine ⟨_, rfl, ?_⟩; have n0_ := Aside0.mk (below_step (by repeat (first | (with_reducible first | exact HB.out | apply below_alloc | apply pw_below_drewN | apply below_drew1) | exact HB.out)) hb); clear HB; have HB := n0_; clear n0_; (try clear hb); (try clear hb2); (try clear hk); (try clear hi)))
        go_ret
        exact ⟨by first | rfl | (simp [errW_none, errW_some] <;> rfl) | (simp [*, errW_none, errW_some] <;> rfl), by repeat (first | (with_reducible first | exact HB.out | apply below_alloc | apply pw_below_drewN | apply below_drew1) | exact HB.out)⟩
      · replace c7 := Bool.eq_false_iff.mpr c7
        subst c7
        have H1 : ((lex_Key.f a0).bind fun t180 => ((ballcockref05_Key.f kj1 a0).bind fun t181 => (if (t180 == t181) = true then ((lex_Name.f a0).bind fun t182 => ((ballcockref05_Name.f kj1 a0).bind fun t183 => (if (t182 == t183) = true then ((lex_Key.f a0).bind fun t184 => (if t184 = true then ((lex_Name.f a0).bind fun t185 => (some (!t185))) else (some (!false)))) else (some false)))) else (some false)))) = some r := by rw [if_neg (show ¬ (false = true) by decide)] at H; exact H
        clear H
        have H := H1
        clear H1
        replace H := Option.bind_eq_some_iff.mp H
        obtain ⟨t180, A100, H⟩ := H
        replace H : ((ballcockref05_Key.f kj1 a0).bind fun t181 => (if (t180 == t181) = true then ((lex_Name.f a0).bind fun t182 => ((ballcockref05_Name.f kj1 a0).bind fun t183 => (if (t182 == t183) = true then ((lex_Key.f a0).bind fun t184 => (if t184 = true then ((lex_Name.f a0).bind fun t185 => (some (!t185))) else (some (!false)))) else (some false)))) else (some false))) = some r := H
        have A10 := Aside0.mk A100
        clear A100
        replace H := Option.bind_eq_some_iff.mp H
        obtain ⟨t181, A110, H⟩ := H
        replace H : (if (t180 == t181) = true then ((lex_Name.f a0).bind fun t182 => ((ballcockref05_Name.f kj1 a0).bind fun t183 => (if (t182 == t183) = true then ((lex_Key.f a0).bind fun t184 => (if t184 = true then ((lex_Name.f a0).bind fun t185 => (some (!t185))) else (some (!false)))) else (some false)))) else (some false)) = some r := H
        have A11 := Aside0.mk A110
        clear A110
        by_cases c12 : (t180 == t181) = true
        · rw [if_pos c12] at H
          have c12b0 : (t180 == t181) = true := c12
          (try (have c12b1 : decide (t180 = t181) = true := by simpa using c12))
          (try (have c12b2 : (t180 == t181) = true := by simpa using c12))
          clear c12
          replace H := Option.bind_eq_some_iff.mp H
          obtain ⟨t182, A130, H⟩ := H
          replace H : ((ballcockref05_Name.f kj1 a0).bind fun t183 => (if (t182 == t183) = true then ((lex_Key.f a0).bind fun t184 => (if t184 = true then ((lex_Name.f a0).bind fun t185 => (some (!t185))) else (some (!false)))) else (some false))) = some r := H
          have A13 := Aside0.mk A130
          clear A130
          replace H := Option.bind_eq_some_iff.mp H
          obtain ⟨t183, A140, H⟩ := H
          replace H : (if (t182 == t183) = true then ((lex_Key.f a0).bind fun t184 => (if t184 = true then ((lex_Name.f a0).bind fun t185 => (some (!t185))) else (some (!false)))) else (some false)) = some r := H
          have A14 := Aside0.mk A140
          clear A140
          by_cases c15 : (t182 == t183) = true
          · rw [if_pos c15] at H
            have c15b0 : (t182 == t183) = true := c15
            (try (have c15b1 : decide (t182 = t183) = true := by simpa using c15))
            (try (have c15b2 : (t182 == t183) = true := by simpa using c15))
            clear c15
            replace H := Option.bind_eq_some_iff.mp H
            obtain ⟨t184, A160, H⟩ := H
            replace H : (if t184 = true then ((lex_Name.f a0).bind fun t185 => (some (!t185))) else (some (!false))) = some r := H
            have A16 := Aside0.mk A160
            clear A160
            by_cases c17 : t184 = true
            · subst c17
              have H1 : ((lex_Name.f a0).bind fun t185 => (some (!t185))) = some r := by rw [if_pos rfl] at H; exact H
              clear H
              have H := H1
              clear H1
              replace H := Option.bind_eq_some_iff.mp H
              obtain ⟨t185, A180, H⟩ := H
              replace H : (some (!t185)) = some r := H
              have A18 := Aside0.mk A180
              clear A180
              obtain rfl : t180 = true := Option.some.inj (A10.out.symm.trans A16.out)
              obtain rfl : t185 = t182 := Option.some.inj (A18.out.symm.trans A13.out)
              obtain rfl := Option.some.inj H
              go_wp2_with (first | ((with_reducible refine gate_callee (f := 17) rfl ?_); refine goesL_ (some 12) rfl rfl Tryd.func17 (by kernel_rfl) rfl #[.string a0] rfl (by (try simp only [List.map_toArray, List.map_cons, List.map_nil]); first | done | rfl | (simp only [List.length_drop, List.length_take]; rfl)) ?_; (with_reducible refine (lex_Key.calls a0 t180 _ A10.out).mono ?_); rintro e w19 ⟨rfl, hb⟩; refine ⟨_, rfl, ?_⟩; have n0_ := Aside0.mk (below_step (by repeat (first | (with_reducible first | exact HB.out | apply below_alloc | apply pw_below_drewN | apply below_drew1) | exact HB.out)) hb); clear HB; have HB := n0_; clear n0_; (try clear hb); (try clear hb2); (try clear hk); (try clear hi)) | ((with_reducible refine gate_callee (f := 18) rfl ?_); refine goesL_ (some 14) rfl rfl Tryd.func18 (by kernel_rfl) rfl #[.string a0] rfl (by (try simp only [List.map_toArray, List.map_cons, List.map_nil]); first | done | rfl | (simp only [List.length_drop, List.length_take]; rfl)) ?_; (with_reducible refine (ballcockref05_Key.calls kj1 a0 t181 _ A11.out).mono ?_); rintro e w20 ⟨rfl, hb⟩; refine ⟨_, rfl, ?_⟩; have n0_ := Aside0.mk (below_step (by repeat (first | (with_reducible first | exact HB.out | apply below_alloc | apply pw_below_drewN | apply below_drew1) | exact HB.out)) hb); clear HB; have HB := n0_; clear n0_; (try clear hb); (try clear hb2); (try clear hk); (try clear hi)) | (go_at_call 19; (with_reducible refine (lex_Name.calls a0 t182 _ A13.out).mono ?_); rintro e w21 ⟨rfl, hb⟩; have n0_ := Aside0.mk (below_step (by repeat (first | (with_reducible first | exact HB.out | apply below_alloc | apply pw_below_drewN | apply below_drew1) | exact HB.out)) hb); clear HB; have HB := n0_; clear n0_; (try clear hb); (try clear hb2); (try clear hk); (try clear hi)) | (go_at_call 20; (with_reducible refine (ballcockref05_Name.calls kj1 a0 t183 _ A14.out).mono ?_); rintro e w22 ⟨rfl, hb⟩; have n0_ := Aside0.mk (below_step (by repeat (first | (with_reducible first | exact HB.out | apply below_alloc | apply pw_below_drewN | apply below_drew1) | exact HB.out)) hb); clear HB; have HB := n0_; clear n0_; (try clear hb); (try clear hb2); (try clear hk); (try clear hi)) | (go_at_call 17; (with_reducible refine (lex_Key.calls a0 true _ A16.out).mono ?_); rintro e w23 ⟨rfl, hb⟩; have n0_ := Aside0.mk (below_step (by repeat (first | (with_reducible first | exact HB.out | apply below_alloc | apply pw_below_drewN | apply below_drew1) | exact HB.out)) hb); clear HB; have HB := n0_; clear n0_; (try clear hb); (try clear hb2); (try clear hk); (try clear hi)) | (go_at_call 19; (with_reducible refine (lex_Name.calls a0 t185 _ A18.out).mono ?_); rintro e w24 ⟨rfl, hb⟩; have n0_ := Aside0.mk (below_step (by repeat (first | (with_reducible first | exact HB.out | apply below_alloc | apply pw_below_drewN | apply below_drew1) | exact HB.out)) hb); clear HB; have HB := n0_; clear n0_; (try clear hb); (try clear hb2); (try clear hk); (try clear hi)))
              go_ret
              exact ⟨by first | rfl | (simp [errW_none, errW_some] <;> rfl) | (simp [*, errW_none, errW_some] <;> rfl), by repeat (first | (with_reducible first | exact HB.out | apply below_alloc | apply pw_below_drewN | apply below_drew1) | exact HB.out)⟩
            · replace c17 := Bool.eq_false_iff.mpr c17
              subst c17
              have H1 : (some (!false)) = some r := by rw [if_neg (show ¬ (false = true) by decide)] at H; exact H
              clear H
              have H := H1
              clear H1
              obtain rfl := Option.some.inj H
              go_wp2_with (first | ((with_reducible refine gate_callee (f := 17) rfl ?_); refine goesL_ (some 12) rfl rfl Tryd.func17 (by kernel_rfl) rfl #[.string a0] rfl (by (try simp only [List.map_toArray, List.map_cons, List.map_nil]); first | done | rfl | (simp only [List.length_drop, List.length_take]; rfl)) ?_; (with_reducible refine (lex_Key.calls a0 t180 _ A10.out).mono ?_); rintro e w25 ⟨rfl, hb⟩; refine ⟨_, rfl, ?_⟩; have n0_ := Aside0.mk (below_step (by repeat (first | (with_reducible first | exact HB.out | apply below_alloc | apply pw_below_drewN | apply below_drew1) | exact HB.out)) hb); clear HB; have HB := n0_; clear n0_; (try clear hb); (try clear hb2); (try clear hk); (try clear hi)) | ((with_reducible refine gate_callee (f := 18) rfl ?_); refine goesL_ (some 14) rfl rfl Tryd.func18 (by kernel_rfl) rfl #[.string a0] rfl (by (try simp only [List.map_toArray, List.map_cons, List.map_nil]); first | done | rfl | (simp only [List.length_drop, List.length_take]; rfl)) ?_; (with_reducible refine (ballcockref05_Key.calls kj1 a0 t181 _ A11.out).mono ?_); rintro e w26 ⟨rfl, hb⟩; refine ⟨_, rfl, ?_⟩; have n0_ := Aside0.mk (below_step (by repeat (first | (with_reducible first | exact HB.out | apply below_alloc | apply pw_below_drewN | apply below_drew1) | exact HB.out)) hb); clear HB; have HB := n0_; clear n0_; (try clear hb); (try clear hb2); (try clear hk); (try clear hi)) | (go_at_call 19; (with_reducible refine (lex_Name.calls a0 t182 _ A13.out).mono ?_); rintro e w27 ⟨rfl, hb⟩; have n0_ := Aside0.mk (below_step (by repeat (first | (with_reducible first | exact HB.out | apply below_alloc | apply pw_below_drewN | apply below_drew1) | exact HB.out)) hb); clear HB; have HB := n0_; clear n0_; (try clear hb); (try clear hb2); (try clear hk); (try clear hi)) | (go_at_call 20; (with_reducible refine (ballcockref05_Name.calls kj1 a0 t183 _ A14.out).mono ?_); rintro e w28 ⟨rfl, hb⟩; have n0_ := Aside0.mk (below_step (by repeat (first | (with_reducible first | exact HB.out | apply below_alloc | apply pw_below_drewN | apply below_drew1) | exact HB.out)) hb); clear HB; have HB := n0_; clear n0_; (try clear hb); (try clear hb2); (try clear hk); (try clear hi)) | (go_at_call 17; (with_reducible refine (lex_Key.calls a0 false _ A16.out).mono ?_); rintro e w29 ⟨rfl, hb⟩; have n0_ := Aside0.mk (below_step (by repeat (first | (with_reducible first | exact HB.out | apply below_alloc | apply pw_below_drewN | apply below_drew1) | exact HB.out)) hb); clear HB; have HB := n0_; clear n0_; (try clear hb); (try clear hb2); (try clear hk); (try clear hi)))
              go_ret
              exact ⟨by first | rfl | (simp [errW_none, errW_some] <;> rfl) | (simp [*, errW_none, errW_some] <;> rfl), by repeat (first | (with_reducible first | exact HB.out | apply below_alloc | apply pw_below_drewN | apply below_drew1) | exact HB.out)⟩
          · rw [if_neg c15] at H
            have c15b0 : (t182 == t183) = false := by simpa using c15
            (try (have c15b1 : decide (t182 = t183) = false := by simpa using c15))
            (try (have c15b2 : (t182 == t183) = false := by simpa using c15))
            (try (have c15b3 : ¬ (t182 = t183) := by simpa using c15))
            clear c15
            subst hr_
            exact absurd H (by simp)
        · rw [if_neg c12] at H
          have c12b0 : (t180 == t181) = false := by simpa using c12
          (try (have c12b1 : decide (t180 = t181) = false := by simpa using c12))
          (try (have c12b2 : (t180 == t181) = false := by simpa using c12))
          (try (have c12b3 : ¬ (t180 = t181) := by simpa using c12))
          clear c12
          subst hr_
          exact absurd H (by simp)

/-- THE ONE PURE STATEMENT of ballcocklaw05_LexNames: yours. -/
def ballcocklaw05_LexNames.Pure : Prop := ∀ (a0 : ByteArray), a0.size ≤ 140737488351232 → ∃ k, ballcocklaw05_LexNames.f k a0 = some true
theorem ballcocklaw05_LexNames.walk (P : ballcocklaw05_LexNames.Pure) (a0 : ByteArray) (w : World) (w0 : a0.size ≤ 140737488351232) :
    Calls Tryd.prog 4 #[.string a0] w fun e w' => e = .returned (.bool true) ∧ Below w.heap.size w w' := by
  obtain ⟨k, h⟩ := P a0 w0
  refine (ballcocklaw05_LexNames.calls k a0 true w rfl h).mono ?_
  rintro e w' ⟨rfl, hd⟩
  exact ⟨rfl, hd⟩

end Go.Proofs.YtifjmokilbijlaaDoor.PLex
