-- Written by a program of this session (wip/myprint.py).
import Derived.Test.YtifjmokilbijlaaDoorPLexx0
import Derived.Test.YtifjmokilbijlaaDoorPLexx3
import Derived.Test.YtifjmokilbijlaaDoorPLexx7
namespace Go.Proofs.YtifjmokilbijlaaDoor.PLex
open Go.RowKit Go.Proofs.YtifjmokilbijlaaDoorW.PrintWords Go.Proofs.YtifjmokilbijlaaDoorW.PrintLast Go.Proofs.YtifjmokilbijlaaDoorW.PrintMore
attribute [local go_sem] max2_int min2_int max_two min_two max_three min_three max_four min_four   -- for this text's walks alone
set_option linter.unusedVariables false
set_option linter.unusedSimpArgs false

/-! ### ballcocklaw05_LexPlaces: function 7 -/
mutual
def ballcocklaw05_LexPlaces.j0 : Nat → ByteArray → Bool → Option (Bool)
  | 0, _, _ => none
  | k + 1, x0, x14 => if x14 = true then ((ballcocklaw05_awake.f).bind fun t218 => (some t218)) else ((lex_Tokens.f x0).bind fun bt219 => (if bt219.2.1 = 0 then (ballcocklaw05_LexPlaces.l0 k x0 bt219.1 0 0) else (if (bt219.1.length : Int) = 0 then (if bt219.2.2 ≥ 0 then (some (decide (bt219.2.2 < (x0.size : Int)))) else (some false)) else (some false))))
def ballcocklaw05_LexPlaces.l0 : Nat → ByteArray → List (S32) → Int → Int → Option (Bool)
  | 0, _, _, _, _ => none
  | k + 1, x0, x3, x5, x6 => if x6 < (x3.length : Int) then (if 0 ≤ x6 then (if ((rd_T32 x3 x6).f2) < x5 then (ballcocklaw05_LexPlaces.j2 k x0 x3 x6 true ((rd_T32 x3 x6).f0) ((rd_T32 x3 x6).f1) ((rd_T32 x3 x6).f2)) else (if (wrap64 (((rd_T32 x3 x6).f2) + (((rd_T32 x3 x6).f1).size : Int))) > (x0.size : Int) then (ballcocklaw05_LexPlaces.j2 k x0 x3 x6 true ((rd_T32 x3 x6).f0) ((rd_T32 x3 x6).f1) ((rd_T32 x3 x6).f2)) else (if 0 ≤ ((rd_T32 x3 x6).f2) then (if ((rd_T32 x3 x6).f2) ≤ (wrap64 (((rd_T32 x3 x6).f2) + (((rd_T32 x3 x6).f1).size : Int))) then (if (wrap64 (((rd_T32 x3 x6).f2) + (((rd_T32 x3 x6).f1).size : Int))) ≤ (x0.size : Int) then (if (x0.extract (((rd_T32 x3 x6).f2) : Int).toNat ((wrap64 (((rd_T32 x3 x6).f2) + (((rd_T32 x3 x6).f1).size : Int))) : Int).toNat).toList = ((rd_T32 x3 x6).f1).toList then (if ((((rd_T32 x3 x6).f0) == 3) != (x6 == (wrap64 ((x3.length : Int) - 1)))) = true then (ballcocklaw05_LexPlaces.j2 k x0 x3 x6 true ((rd_T32 x3 x6).f0) ((rd_T32 x3 x6).f1) ((rd_T32 x3 x6).f2)) else (ballcocklaw05_LexPlaces.j2 k x0 x3 x6 ((((rd_T32 x3 x6).f1).toList == ([] : List UInt8)) != (((rd_T32 x3 x6).f0) == 3)) ((rd_T32 x3 x6).f0) ((rd_T32 x3 x6).f1) ((rd_T32 x3 x6).f2))) else (ballcocklaw05_LexPlaces.j2 k x0 x3 x6 true ((rd_T32 x3 x6).f0) ((rd_T32 x3 x6).f1) ((rd_T32 x3 x6).f2))) else (none)) else (none)) else (none)))) else (none)) else (if (x3.length : Int) > 0 then (if 0 ≤ (wrap64 ((x3.length : Int) - 1)) then (if (wrap64 ((x3.length : Int) - 1)) < (x3.length : Int) then (some (((rd_T32 x3 (wrap64 ((x3.length : Int) - 1))).f2) == (x0.size : Int))) else (none)) else (none)) else (some false))
def ballcocklaw05_LexPlaces.j2 : Nat → ByteArray → List (S32) → Int → Bool → Int → ByteArray → Int → Option (Bool)
  | 0, _, _, _, _, _, _, _ => none
  | k + 1, x0, x3, x6, x98, x228000, x228001, x228002 => if x98 = true then (some false) else (ballcocklaw05_LexPlaces.l0 k x0 x3 (wrap64 (x228002 + (x228001.size : Int))) (wrap64 (x6 + 1)))
end
def ballcocklaw05_LexPlaces.f (k : Nat) (a0 : ByteArray) : Option (Bool) := (ballcocklaw05_awake.f).bind fun t217 => (if t217 = true then (ballcocklaw05_LexPlaces.j0 k a0 (decide ((a0.size : Int) > 2000))) else (ballcocklaw05_LexPlaces.j0 k a0 true))
theorem ballcocklaw05_LexPlaces.mono_l : ∀ k, (∀ y0 y1, LeO (ballcocklaw05_LexPlaces.j0 k y0 y1) (ballcocklaw05_LexPlaces.j0 (k + 1) y0 y1)) ∧ (∀ y0 y1 y2 y3, LeO (ballcocklaw05_LexPlaces.l0 k y0 y1 y2 y3) (ballcocklaw05_LexPlaces.l0 (k + 1) y0 y1 y2 y3)) ∧ (∀ y0 y1 y2 y3 y4 y5 y6, LeO (ballcocklaw05_LexPlaces.j2 k y0 y1 y2 y3 y4 y5 y6) (ballcocklaw05_LexPlaces.j2 (k + 1) y0 y1 y2 y3 y4 y5 y6))
  | 0 => ⟨fun _ _ r h => by simp [ballcocklaw05_LexPlaces.j0] at h, fun _ _ _ _ r h => by simp [ballcocklaw05_LexPlaces.l0] at h, fun _ _ _ _ _ _ _ r h => by simp [ballcocklaw05_LexPlaces.j2] at h⟩
  | k + 1 => by
    obtain ⟨ih0, ih1, ih2⟩ := ballcocklaw05_LexPlaces.mono_l k
    refine ⟨?_, ?_, ?_⟩
    · intro y0 y1
      unfold ballcocklaw05_LexPlaces.j0
      repeat' first
      | (with_reducible exact ih0 _ _)
      | (with_reducible exact ih1 _ _ _ _)
      | (with_reducible exact ih2 _ _ _ _ _ _ _)
      | (with_reducible exact LeO.refl _)
      | (with_reducible exact LeO.none _)
      | (with_reducible refine LeO.ite ?_ ?_)
      | (with_reducible refine LeO.bind ?_ (fun _ => ?_))
      | exact ih0 _ _
      | exact ih1 _ _ _ _
      | exact ih2 _ _ _ _ _ _ _
      | exact LeO.none _
      | refine LeO.ite ?_ ?_
      | refine LeO.bind ?_ (fun _ => ?_)
    · intro y0 y1 y2 y3
      unfold ballcocklaw05_LexPlaces.l0
      repeat' first
      | (with_reducible exact ih0 _ _)
      | (with_reducible exact ih1 _ _ _ _)
      | (with_reducible exact ih2 _ _ _ _ _ _ _)
      | (with_reducible exact LeO.refl _)
      | (with_reducible exact LeO.none _)
      | (with_reducible refine LeO.ite ?_ ?_)
      | (with_reducible refine LeO.bind ?_ (fun _ => ?_))
      | exact ih0 _ _
      | exact ih1 _ _ _ _
      | exact ih2 _ _ _ _ _ _ _
      | exact LeO.none _
      | refine LeO.ite ?_ ?_
      | refine LeO.bind ?_ (fun _ => ?_)
    · intro y0 y1 y2 y3 y4 y5 y6
      unfold ballcocklaw05_LexPlaces.j2
      repeat' first
      | (with_reducible exact ih0 _ _)
      | (with_reducible exact ih1 _ _ _ _)
      | (with_reducible exact ih2 _ _ _ _ _ _ _)
      | (with_reducible exact LeO.refl _)
      | (with_reducible exact LeO.none _)
      | (with_reducible refine LeO.ite ?_ ?_)
      | (with_reducible refine LeO.bind ?_ (fun _ => ?_))
      | exact ih0 _ _
      | exact ih1 _ _ _ _
      | exact ih2 _ _ _ _ _ _ _
      | exact LeO.none _
      | refine LeO.ite ?_ ?_
      | refine LeO.bind ?_ (fun _ => ?_)
theorem ballcocklaw05_LexPlaces.mono : ∀ a0 k, LeO (ballcocklaw05_LexPlaces.f k a0) (ballcocklaw05_LexPlaces.f (k + 1) a0) := by
  intro a0 k
  obtain ⟨ih0, ih1, ih2⟩ := ballcocklaw05_LexPlaces.mono_l k
  unfold ballcocklaw05_LexPlaces.f
  repeat' first
      | (with_reducible exact ih0 _ _)
      | (with_reducible exact ih1 _ _ _ _)
      | (with_reducible exact ih2 _ _ _ _ _ _ _)
      | (with_reducible exact LeO.refl _)
      | (with_reducible exact LeO.none _)
      | (with_reducible refine LeO.ite ?_ ?_)
      | (with_reducible refine LeO.bind ?_ (fun _ => ?_))
      | exact ih0 _ _
      | exact ih1 _ _ _ _
      | exact ih2 _ _ _ _ _ _ _
      | exact LeO.none _
      | refine LeO.ite ?_ ?_
      | refine LeO.bind ?_ (fun _ => ?_)
set_option maxHeartbeats 8000000 in
set_option maxRecDepth 100000 in
theorem ballcocklaw05_LexPlaces.calls (k : Nat) (a0 : ByteArray) (r : Bool) (w : World) (hr_ : r = true) (h : ballcocklaw05_LexPlaces.f k a0 = some r) :
    Calls Tryd.prog 7 #[.string a0] w fun e w' => e = .returned (.bool r) ∧ Below w.heap.size w w' := by
  have hu26 := Tryd.underlying26
  have hu32 := Tryd.underlying32
  have HB := Aside0.mk (Below.refl w.heap.size w)
  have H : ((ballcocklaw05_awake.f).bind fun t217 => (if t217 = true then (ballcocklaw05_LexPlaces.j0 k a0 (decide ((a0.size : Int) > 2000))) else (ballcocklaw05_LexPlaces.j0 k a0 true))) = some r := h
  clear h
  have HC2 := Aside0.mk H
  clear H
  go_enter Tryd.func7, Tryd.ntmps7
  go_upto_region 1 with (fail)
  repeat (go_quiet (fail); go_upto_region 1 with (fail))
  go_cut [14] (fun v14 wc => ∃ (kq : Nat) (x14_1 : Bool), v14 = .bool x14_1 ∧ Aside0 (ballcocklaw05_LexPlaces.j0 kq a0 x14_1 = some r) ∧ Aside0 (kq ≤ k) ∧ Aside0 (Below w.heap.size w wc))
  case first =>
    have H := HC2.out
    clear HC2
    replace H := Option.bind_eq_some_iff.mp H
    obtain ⟨t217, A30, H⟩ := H
    replace H : (if t217 = true then (ballcocklaw05_LexPlaces.j0 k a0 (decide ((a0.size : Int) > 2000))) else (ballcocklaw05_LexPlaces.j0 k a0 true)) = some r := H
    have A3 := Aside0.mk A30
    clear A30
    by_cases c4 : t217 = true
    · subst c4
      have H1 : (ballcocklaw05_LexPlaces.j0 k a0 (decide ((a0.size : Int) > 2000))) = some r := by rw [if_pos rfl] at H; exact H
      clear H
      have H := H1
      clear H1
      have H' := Aside0.mk H
      clear H
      go_wp2_with (first | (go_at_call 13; (with_reducible refine (ballcocklaw05_awake.calls  true _ A3.out).mono ?_); rintro e w5 ⟨rfl, hb⟩; have n0_ := Aside0.mk (below_step (by repeat (first | (with_reducible first | exact HB.out | apply below_alloc | apply pw_below_drewN | apply below_drew1) | exact HB.out)) hb); clear HB; have HB := n0_; clear n0_; (try clear hb); (try clear hb2); (try clear hk); (try clear hi)))
      repeat (go_quiet (first | (go_at_call 13; (with_reducible refine (ballcocklaw05_awake.calls  true _ A3.out).mono ?_); rintro e w5 ⟨rfl, hb⟩; have n0_ := Aside0.mk (below_step (by repeat (first | (with_reducible first | exact HB.out | apply below_alloc | apply pw_below_drewN | apply below_drew1) | exact HB.out)) hb); clear HB; have HB := n0_; clear n0_; (try clear hb); (try clear hb2); (try clear hk); (try clear hi))); try go_wp2_with (first | (go_at_call 13; (with_reducible refine (ballcocklaw05_awake.calls  true _ A3.out).mono ?_); rintro e w5 ⟨rfl, hb⟩; have n0_ := Aside0.mk (below_step (by repeat (first | (with_reducible first | exact HB.out | apply below_alloc | apply pw_below_drewN | apply below_drew1) | exact HB.out)) hb); clear HB; have HB := n0_; clear n0_; (try clear hb); (try clear hb2); (try clear hk); (try clear hi))))
      go_meet
      case rel => exact ⟨_, (decide ((a0.size : Int) > 2000)), (by first | rfl | (simp; done) | (simp [*]; done) | (simp [bne]; done) | (generalize (((rd_T32 t219 x6_2).f1).toList == ([] : List UInt8)) = A9_; generalize (((rd_T32 t219 x6_2).f0) == 3) = B9_; cases A9_ <;> cases B9_ <;> rfl)), H', ⟨by first | omega | exact Nat.le_refl _⟩, ⟨by repeat (first | (with_reducible first | exact HB.out | apply below_alloc | apply pw_below_drewN | apply below_drew1) | exact HB.out)⟩⟩
    · replace c4 := Bool.eq_false_iff.mpr c4
      subst c4
      have H1 : (ballcocklaw05_LexPlaces.j0 k a0 true) = some r := by rw [if_neg (show ¬ (false = true) by decide)] at H; exact H
      clear H
      have H := H1
      clear H1
      have H' := Aside0.mk H
      clear H
      go_wp2_with (first | (go_at_call 13; (with_reducible refine (ballcocklaw05_awake.calls  false _ A3.out).mono ?_); rintro e w6 ⟨rfl, hb⟩; have n0_ := Aside0.mk (below_step (by repeat (first | (with_reducible first | exact HB.out | apply below_alloc | apply pw_below_drewN | apply below_drew1) | exact HB.out)) hb); clear HB; have HB := n0_; clear n0_; (try clear hb); (try clear hb2); (try clear hk); (try clear hi)))
      repeat (go_quiet (first | (go_at_call 13; (with_reducible refine (ballcocklaw05_awake.calls  false _ A3.out).mono ?_); rintro e w6 ⟨rfl, hb⟩; have n0_ := Aside0.mk (below_step (by repeat (first | (with_reducible first | exact HB.out | apply below_alloc | apply pw_below_drewN | apply below_drew1) | exact HB.out)) hb); clear HB; have HB := n0_; clear n0_; (try clear hb); (try clear hb2); (try clear hk); (try clear hi))); try go_wp2_with (first | (go_at_call 13; (with_reducible refine (ballcocklaw05_awake.calls  false _ A3.out).mono ?_); rintro e w6 ⟨rfl, hb⟩; have n0_ := Aside0.mk (below_step (by repeat (first | (with_reducible first | exact HB.out | apply below_alloc | apply pw_below_drewN | apply below_drew1) | exact HB.out)) hb); clear HB; have HB := n0_; clear n0_; (try clear hb); (try clear hb2); (try clear hk); (try clear hi))))
      go_meet
      case rel => exact ⟨_, (true), (by first | rfl | (simp; done) | (simp [*]; done) | (simp [bne]; done) | (generalize (((rd_T32 t219 x6_2).f1).toList == ([] : List UInt8)) = A9_; generalize (((rd_T32 t219 x6_2).f0) == 3) = B9_; cases A9_ <;> cases B9_ <;> rfl)), H', ⟨by first | omega | exact Nat.le_refl _⟩, ⟨by repeat (first | (with_reducible first | exact HB.out | apply below_alloc | apply pw_below_drewN | apply below_drew1) | exact HB.out)⟩⟩
  case rest =>
    clear HC2
    try clear p2
    try clear c4
    obtain ⟨kq, x14_1, rfl, HA, HJ1, HB⟩ := hcut
    cases kq with
    | zero => exact absurd HA.out (by simp [ballcocklaw05_LexPlaces.j0])
    | succ kj1 =>
      have H := HA.out
      clear HA
      simp only [ballcocklaw05_LexPlaces.j0] at H
      by_cases c7 : x14_1 = true
      · subst c7
        have H1 : ((ballcocklaw05_awake.f).bind fun t218 => (some t218)) = some r := by rw [if_pos rfl] at H; exact H
        clear H
        have H := H1
        clear H1
        replace H := Option.bind_eq_some_iff.mp H
        obtain ⟨t218, A80, H⟩ := H
        replace H : (some t218) = some r := H
        have A8 := Aside0.mk A80
        clear A80
        obtain rfl := Option.some.inj H
        go_wp2_with (first | (go_at_call 13; (with_reducible refine (ballcocklaw05_awake.calls  t218 _ A8.out).mono ?_); rintro e w9 ⟨rfl, hb⟩; have n0_ := Aside0.mk (below_step (by repeat (first | (with_reducible first | exact HB.out | apply below_alloc | apply pw_below_drewN | apply below_drew1) | exact HB.out)) hb); clear HB; have HB := n0_; clear n0_; (try clear hb); (try clear hb2); (try clear hk); (try clear hi)))
        repeat (go_quiet (first | (go_at_call 13; (with_reducible refine (ballcocklaw05_awake.calls  t218 _ A8.out).mono ?_); rintro e w9 ⟨rfl, hb⟩; have n0_ := Aside0.mk (below_step (by repeat (first | (with_reducible first | exact HB.out | apply below_alloc | apply pw_below_drewN | apply below_drew1) | exact HB.out)) hb); clear HB; have HB := n0_; clear n0_; (try clear hb); (try clear hb2); (try clear hk); (try clear hi))); try go_wp2_with (first | (go_at_call 13; (with_reducible refine (ballcocklaw05_awake.calls  t218 _ A8.out).mono ?_); rintro e w9 ⟨rfl, hb⟩; have n0_ := Aside0.mk (below_step (by repeat (first | (with_reducible first | exact HB.out | apply below_alloc | apply pw_below_drewN | apply below_drew1) | exact HB.out)) hb); clear HB; have HB := n0_; clear n0_; (try clear hb); (try clear hb2); (try clear hk); (try clear hi))))
        go_ret
        exact ⟨by first | rfl | (simp [errW_none, errW_some] <;> rfl) | (simp [*, errW_none, errW_some] <;> rfl), by repeat (first | (with_reducible first | exact HB.out | apply below_alloc | apply pw_below_drewN | apply below_drew1) | exact HB.out)⟩
      · replace c7 := Bool.eq_false_iff.mpr c7
        subst c7
        have H1 : ((lex_Tokens.f a0).bind fun bt219 => (if bt219.2.1 = 0 then (ballcocklaw05_LexPlaces.l0 kj1 a0 bt219.1 0 0) else (if (bt219.1.length : Int) = 0 then (if bt219.2.2 ≥ 0 then (some (decide (bt219.2.2 < (a0.size : Int)))) else (some false)) else (some false)))) = some r := by rw [if_neg (show ¬ (false = true) by decide)] at H; exact H
        clear H
        have H := H1
        clear H1
        replace H := Option.bind_eq_some_iff.mp H
        obtain ⟨⟨t219, t222, t223⟩, A100, H⟩ := H
        replace H : (if t222 = 0 then (ballcocklaw05_LexPlaces.l0 kj1 a0 t219 0 0) else (if (t219.length : Int) = 0 then (if t223 ≥ 0 then (some (decide (t223 < (a0.size : Int)))) else (some false)) else (some false))) = some r := H
        have A10 := Aside0.mk A100
        clear A100
        by_cases c11 : t222 = 0
        · rw [if_pos c11] at H
          have c11b0 : (t222 == 0) = true := beq_iff_eq.mpr c11
          have c11b1 : (t222 != 0) = false := bne_eq_false_iff_eq.mpr c11
          clear c11
          have H' := Aside0.mk H
          clear H
          go_wp2_with (first | (go_at_call 14; (with_reducible refine (lex_Tokens.calls a0 t219 t222 t223 _ A10.out).mono ?_); rintro e w12 ⟨v220, rfl, ho0, hb⟩; have n0_ := Aside0.mk (Kd.R_lower ho0 (below_size (by repeat (first | (with_reducible first | exact HB.out | apply below_alloc | apply pw_below_drewN | apply below_drew1) | exact HB.out)))); have n1_ := Aside0.mk (below_step (by repeat (first | (with_reducible first | exact HB.out | apply below_alloc | apply pw_below_drewN | apply below_drew1) | exact HB.out)) hb); clear HB; have HO221 := n0_; have HB := n1_; clear n0_ n1_; (try clear hb); (try clear hb2); (try clear hk); (try clear hi); (try clear ho0)) | ((with_reducible refine gate_dst (N := 4) rfl ?_); (try (refine gate_guard (by rfl) ?_; dsimp only)); refine box_event ?hg (N := 4) ?hd (cs := #[.int .i64 0, .int .i64 0]) (t := 26) ?hr ?_; (case hd => rfl); (case hg => rfl); (case hr => first | (go_simp; done) | (go_simp; rfl)); intro gb224 hg w13 hbox hb; have n0_ := Aside0.mk (Kd.R_below (by (with_reducible repeat (first | apply Kd.R_alloc | apply Kd.R_drewN | apply Kd.R_drew)); exact HO221.out) hb); have n1_ := Aside0.mk (below_step (by repeat (first | (with_reducible first | exact HB.out | apply below_alloc | apply pw_below_drewN | apply below_drew1) | exact HB.out)) hb); have n2_ := Aside0.mk (hbox); have n3_ := Aside0.mk ((by rw [hg]; exact (below_size (by repeat (first | (with_reducible first | exact HB.out | apply below_alloc | apply pw_below_drewN | apply below_drew1) | exact HB.out))) : w.heap.size ≤ gb224)); have n4_ := Aside0.mk ((by rw [hg]; exact (below_size (by repeat (first | (with_reducible first | exact HB.out | apply below_alloc | apply pw_below_drewN | apply below_drew1) | exact HB.out))) : w.heap.size ≤ gb224)); clear HO221; clear HB; have HO221 := n0_; have HB := n1_; have BK224 := n2_; have GW224 := n3_; have GE224 := n4_; clear n0_ n1_ n2_ n3_ n4_; clear hb hbox hg; have hcz14_0 : w13.cell? ⟨gb224, 0, none⟩ = some (.int .i64 0) := (blk_cell BK224.out 0).trans rfl; have hcz14_1 : w13.cell? ⟨gb224, 1, none⟩ = some (.int .i64 0) := (blk_cell BK224.out 1).trans rfl; have hfz14_0 := blk_frozen BK224.out 0; have hfz14_1 := blk_frozen BK224.out 1))
          repeat (go_quiet (first | (go_at_call 14; (with_reducible refine (lex_Tokens.calls a0 t219 t222 t223 _ A10.out).mono ?_); rintro e w12 ⟨v220, rfl, ho0, hb⟩; have n0_ := Aside0.mk (Kd.R_lower ho0 (below_size (by repeat (first | (with_reducible first | exact HB.out | apply below_alloc | apply pw_below_drewN | apply below_drew1) | exact HB.out)))); have n1_ := Aside0.mk (below_step (by repeat (first | (with_reducible first | exact HB.out | apply below_alloc | apply pw_below_drewN | apply below_drew1) | exact HB.out)) hb); clear HB; have HO221 := n0_; have HB := n1_; clear n0_ n1_; (try clear hb); (try clear hb2); (try clear hk); (try clear hi); (try clear ho0)) | ((with_reducible refine gate_dst (N := 4) rfl ?_); (try (refine gate_guard (by rfl) ?_; dsimp only)); refine box_event ?hg (N := 4) ?hd (cs := #[.int .i64 0, .int .i64 0]) (t := 26) ?hr ?_; (case hd => rfl); (case hg => rfl); (case hr => first | (go_simp; done) | (go_simp; rfl)); intro gb224 hg w13 hbox hb; have n0_ := Aside0.mk (Kd.R_below (by (with_reducible repeat (first | apply Kd.R_alloc | apply Kd.R_drewN | apply Kd.R_drew)); exact HO221.out) hb); have n1_ := Aside0.mk (below_step (by repeat (first | (with_reducible first | exact HB.out | apply below_alloc | apply pw_below_drewN | apply below_drew1) | exact HB.out)) hb); have n2_ := Aside0.mk (hbox); have n3_ := Aside0.mk ((by rw [hg]; exact (below_size (by repeat (first | (with_reducible first | exact HB.out | apply below_alloc | apply pw_below_drewN | apply below_drew1) | exact HB.out))) : w.heap.size ≤ gb224)); have n4_ := Aside0.mk ((by rw [hg]; exact (below_size (by repeat (first | (with_reducible first | exact HB.out | apply below_alloc | apply pw_below_drewN | apply below_drew1) | exact HB.out))) : w.heap.size ≤ gb224)); clear HO221; clear HB; have HO221 := n0_; have HB := n1_; have BK224 := n2_; have GW224 := n3_; have GE224 := n4_; clear n0_ n1_ n2_ n3_ n4_; clear hb hbox hg; have hcz14_0 : w13.cell? ⟨gb224, 0, none⟩ = some (.int .i64 0) := (blk_cell BK224.out 0).trans rfl; have hcz14_1 : w13.cell? ⟨gb224, 1, none⟩ = some (.int .i64 0) := (blk_cell BK224.out 1).trans rfl; have hfz14_0 := blk_frozen BK224.out 0; have hfz14_1 := blk_frozen BK224.out 1)); try go_wp2_with (first | (go_at_call 14; (with_reducible refine (lex_Tokens.calls a0 t219 t222 t223 _ A10.out).mono ?_); rintro e w12 ⟨v220, rfl, ho0, hb⟩; have n0_ := Aside0.mk (Kd.R_lower ho0 (below_size (by repeat (first | (with_reducible first | exact HB.out | apply below_alloc | apply pw_below_drewN | apply below_drew1) | exact HB.out)))); have n1_ := Aside0.mk (below_step (by repeat (first | (with_reducible first | exact HB.out | apply below_alloc | apply pw_below_drewN | apply below_drew1) | exact HB.out)) hb); clear HB; have HO221 := n0_; have HB := n1_; clear n0_ n1_; (try clear hb); (try clear hb2); (try clear hk); (try clear hi); (try clear ho0)) | ((with_reducible refine gate_dst (N := 4) rfl ?_); (try (refine gate_guard (by rfl) ?_; dsimp only)); refine box_event ?hg (N := 4) ?hd (cs := #[.int .i64 0, .int .i64 0]) (t := 26) ?hr ?_; (case hd => rfl); (case hg => rfl); (case hr => first | (go_simp; done) | (go_simp; rfl)); intro gb224 hg w13 hbox hb; have n0_ := Aside0.mk (Kd.R_below (by (with_reducible repeat (first | apply Kd.R_alloc | apply Kd.R_drewN | apply Kd.R_drew)); exact HO221.out) hb); have n1_ := Aside0.mk (below_step (by repeat (first | (with_reducible first | exact HB.out | apply below_alloc | apply pw_below_drewN | apply below_drew1) | exact HB.out)) hb); have n2_ := Aside0.mk (hbox); have n3_ := Aside0.mk ((by rw [hg]; exact (below_size (by repeat (first | (with_reducible first | exact HB.out | apply below_alloc | apply pw_below_drewN | apply below_drew1) | exact HB.out))) : w.heap.size ≤ gb224)); have n4_ := Aside0.mk ((by rw [hg]; exact (below_size (by repeat (first | (with_reducible first | exact HB.out | apply below_alloc | apply pw_below_drewN | apply below_drew1) | exact HB.out))) : w.heap.size ≤ gb224)); clear HO221; clear HB; have HO221 := n0_; have HB := n1_; have BK224 := n2_; have GW224 := n3_; have GE224 := n4_; clear n0_ n1_ n2_ n3_ n4_; clear hb hbox hg; have hcz14_0 : w13.cell? ⟨gb224, 0, none⟩ = some (.int .i64 0) := (blk_cell BK224.out 0).trans rfl; have hcz14_1 : w13.cell? ⟨gb224, 1, none⟩ = some (.int .i64 0) := (blk_cell BK224.out 1).trans rfl; have hfz14_0 := blk_frozen BK224.out 0; have hfz14_1 := blk_frozen BK224.out 1)))
          go_loopg [5, 6] kj1 (fun kq v5 v6 w' => ∃ (x5_2 : Int) (x6_2 : Int), v5 = .int .i64 x5_2 ∧ v6 = .int .i64 x6_2 ∧ Aside0 (ballcocklaw05_LexPlaces.l0 kq a0 t219 x5_2 x6_2 = some r) ∧ Aside0 (kq ≤ kj1) ∧ Aside0 (Kd.R k32 32 w' w.heap.size (fun _ => True) v220 t219) ∧ Aside0 (w'.heap[gb224]? = some (.cells #[.int .i64 t222, .int .i64 t223] 26 (0, 0))) ∧ Aside0 (Below w.heap.size w w'))
          case atStart => exact ⟨(0), (0), (by first | rfl | (simp; done) | (simp [*]; done) | (simp [bne]; done) | (generalize (((rd_T32 t219 x6_2).f1).toList == ([] : List UInt8)) = A9_; generalize (((rd_T32 t219 x6_2).f0) == 3) = B9_; cases A9_ <;> cases B9_ <;> rfl)), (by first | rfl | (simp; done) | (simp [*]; done) | (simp [bne]; done) | (generalize (((rd_T32 t219 x6_2).f1).toList == ([] : List UInt8)) = A9_; generalize (((rd_T32 t219 x6_2).f0) == 3) = B9_; cases A9_ <;> cases B9_ <;> rfl)), H', ⟨Nat.le_refl _⟩, ⟨by (with_reducible repeat (first | apply Kd.R_alloc | apply Kd.R_drewN | apply Kd.R_drew)); exact Kd.R_mono (Kd.R_far (p := ⟨gb224, 1, none⟩) (Kd.R_far (p := ⟨gb224, 0, none⟩) (Kd.R_types HO221.out BK224.out (by decide)) (fun _ hk => hk.2) (.int .i64 t222)) (fun _ hk => hk.2) (.int .i64 t223)) (fun _ hk => trivial)⟩, ⟨by (with_reducible repeat (first | refine blk_drewN ?_ _ | refine blk_drew ?_ | refine blk_alloc ?_ _)); refine blk_put (cs := #[.int .i64 t222, .int .i64 0]) ?_ 1 _ rfl; (with_reducible repeat (first | refine blk_drewN ?_ _ | refine blk_drew ?_ | refine blk_alloc ?_ _)); refine blk_put (cs := #[.int .i64 0, .int .i64 0]) ?_ 0 _ rfl; (with_reducible repeat (first | refine blk_drewN ?_ _ | refine blk_drew ?_ | refine blk_alloc ?_ _)); exact BK224.out⟩, ⟨by repeat (first | (with_reducible first | exact HB.out | apply below_alloc | apply pw_below_drewN | apply below_drew1 | refine below_set ?_ GE224.out) | exact HB.out)⟩⟩
          case round =>
            clear H'
            try clear c1
            try clear p2
            try clear c4
            try clear c7
            try clear c11
            try clear c11b0
            try clear c11b1
            try clear hcz14_0
            try clear hcz14_1
            try clear hfz14_0
            try clear hfz14_1
            try clear p2
            obtain ⟨x5_2, x6_2, rfl, rfl, HA, HK2, HO_3, BK224, HB⟩ := hrel
            cases gk with
            | zero => exact absurd HA.out (by simp [ballcocklaw05_LexPlaces.l0])
            | succ k2 =>
              have H := HA.out
              clear HA
              simp only [ballcocklaw05_LexPlaces.l0] at H
              by_cases c15 : x6_2 < (t219.length : Int)
              · rw [if_pos c15] at H
                have c15b0 : decide (x6_2 < (t219.length : Int)) = true := decide_eq_true c15
                clear c15
                by_cases c16 : 0 ≤ x6_2
                · rw [if_pos c16] at H
                  have c16b0 : decide (0 ≤ x6_2) = true := decide_eq_true c16
                  clear c16
                  have HC17 := Aside0.mk H
                  clear H
                  obtain ⟨Ao18, co18, eo18⟩ := Kd.R_slice HO_3.out
                  subst eo18
                  have p226 : 0 ≤ (x6_2 : Int) := of_decide_eq_true (by first | (with_reducible assumption) | assumption)
                  have q226 : x6_2 < (t219.length : Int) := of_decide_eq_true (by first | (with_reducible assumption) | assumption)
                  obtain ⟨ad226, e226, hx226_0, hx226_1, hx226_2⟩ := at_T32 (Kd.R_reads' HO_3.out).2.2 x6_2 p226 q226
                  cases e226
                  replace p226 := eq_true p226
                  replace q226 := eq_true q226
                  go_upto_region 11 with (first | ((with_reducible refine gate_dst (N := 7) rfl ?_); (try (refine gate_guard (by rfl) ?_; dsimp only)); refine box_event ?hg (N := 7) ?hd (cs := #[.int .i64 0, .string (⟨#[]⟩ : ByteArray), .int .i64 0]) (t := 32) ?hr ?_; (case hd => rfl); (case hg => rfl); (case hr => first | (go_simp; done) | (go_simp; rfl)); intro gb227 hg w19 hbox hb; have n0_ := Aside0.mk (Kd.R_below (Kd.R_elderB (by (with_reducible repeat (first | apply Kd.R_alloc | apply Kd.R_drewN | apply Kd.R_drew)); exact HO_3.out) gb227 (Nat.le_of_eq hg.symm)) hb); have n1_ := Aside0.mk (blk_below (g := gb224) (o := .cells #[.int .i64 t222, .int .i64 t223] 26 (0, 0)) (by (with_reducible repeat (first | refine blk_drewN ?_ _ | refine blk_drew ?_ | refine blk_alloc ?_ _)); exact BK224.out) hb); have n2_ := Aside0.mk (below_step (by repeat (first | (with_reducible first | exact HB.out | apply below_alloc | apply pw_below_drewN | apply below_drew1 | refine below_set ?_ GE224.out) | exact HB.out)) hb); have n3_ := Aside0.mk (hbox); have n4_ := Aside0.mk ((by rw [hg]; exact (below_size (by repeat (first | (with_reducible first | exact HB.out | apply below_alloc | apply pw_below_drewN | apply below_drew1 | refine below_set ?_ GE224.out) | exact HB.out))) : w.heap.size ≤ gb227)); have n5_ := Aside0.mk ((by rw [hg]; exact (below_size (by repeat (first | (with_reducible first | exact HB.out | apply below_alloc | apply pw_below_drewN | apply below_drew1 | refine below_set ?_ GE224.out) | exact HB.out))) : w.heap.size ≤ gb227)); have n6_ := Aside0.mk ((by rw [hg]; exact Nat.ne_of_lt (blk_lt (g := gb224) (o := .cells #[.int .i64 t222, .int .i64 t223] 26 (0, 0)) (by (with_reducible repeat (first | refine blk_drewN ?_ _ | refine blk_drew ?_ | refine blk_alloc ?_ _)); exact BK224.out)) : gb224 ≠ gb227)); have n7_ := Aside0.mk ((by rw [hg]; exact Nat.ne_of_gt (blk_lt (g := gb224) (o := .cells #[.int .i64 t222, .int .i64 t223] 26 (0, 0)) (by (with_reducible repeat (first | refine blk_drewN ?_ _ | refine blk_drew ?_ | refine blk_alloc ?_ _)); exact BK224.out)) : gb227 ≠ gb224)); clear HO_3; clear BK224; clear HB; have HO_3 := n0_; have BK224 := n1_; have HB := n2_; have BK227 := n3_; have GW227 := n4_; have GE227 := n5_; have NB224_227 := n6_; have NB227_224 := n7_; clear n0_ n1_ n2_ n3_ n4_ n5_ n6_ n7_; clear hb hbox hg; have hnb20 := NB227_224.out; have hnc20 := NB224_227.out; have hcz21_0 : w19.cell? ⟨gb227, 0, none⟩ = some (.int .i64 0) := (blk_cell BK227.out 0).trans rfl; have hcz21_1 : w19.cell? ⟨gb227, 1, none⟩ = some (.string (⟨#[]⟩ : ByteArray)) := (blk_cell BK227.out 1).trans rfl; have hcz21_2 : w19.cell? ⟨gb227, 2, none⟩ = some (.int .i64 0) := (blk_cell BK227.out 2).trans rfl; have hfz21_0 := blk_frozen BK227.out 0; have hfz21_1 := blk_frozen BK227.out 1; have hfz21_2 := blk_frozen BK227.out 2))
                  repeat (go_quiet (first | ((with_reducible refine gate_dst (N := 7) rfl ?_); (try (refine gate_guard (by rfl) ?_; dsimp only)); refine box_event ?hg (N := 7) ?hd (cs := #[.int .i64 0, .string (⟨#[]⟩ : ByteArray), .int .i64 0]) (t := 32) ?hr ?_; (case hd => rfl); (case hg => rfl); (case hr => first | (go_simp; done) | (go_simp; rfl)); intro gb227 hg w19 hbox hb; have n0_ := Aside0.mk (Kd.R_below (Kd.R_elderB (by (with_reducible repeat (first | apply Kd.R_alloc | apply Kd.R_drewN | apply Kd.R_drew)); exact HO_3.out) gb227 (Nat.le_of_eq hg.symm)) hb); have n1_ := Aside0.mk (blk_below (g := gb224) (o := .cells #[.int .i64 t222, .int .i64 t223] 26 (0, 0)) (by (with_reducible repeat (first | refine blk_drewN ?_ _ | refine blk_drew ?_ | refine blk_alloc ?_ _)); exact BK224.out) hb); have n2_ := Aside0.mk (below_step (by repeat (first | (with_reducible first | exact HB.out | apply below_alloc | apply pw_below_drewN | apply below_drew1 | refine below_set ?_ GE224.out) | exact HB.out)) hb); have n3_ := Aside0.mk (hbox); have n4_ := Aside0.mk ((by rw [hg]; exact (below_size (by repeat (first | (with_reducible first | exact HB.out | apply below_alloc | apply pw_below_drewN | apply below_drew1 | refine below_set ?_ GE224.out) | exact HB.out))) : w.heap.size ≤ gb227)); have n5_ := Aside0.mk ((by rw [hg]; exact (below_size (by repeat (first | (with_reducible first | exact HB.out | apply below_alloc | apply pw_below_drewN | apply below_drew1 | refine below_set ?_ GE224.out) | exact HB.out))) : w.heap.size ≤ gb227)); have n6_ := Aside0.mk ((by rw [hg]; exact Nat.ne_of_lt (blk_lt (g := gb224) (o := .cells #[.int .i64 t222, .int .i64 t223] 26 (0, 0)) (by (with_reducible repeat (first | refine blk_drewN ?_ _ | refine blk_drew ?_ | refine blk_alloc ?_ _)); exact BK224.out)) : gb224 ≠ gb227)); have n7_ := Aside0.mk ((by rw [hg]; exact Nat.ne_of_gt (blk_lt (g := gb224) (o := .cells #[.int .i64 t222, .int .i64 t223] 26 (0, 0)) (by (with_reducible repeat (first | refine blk_drewN ?_ _ | refine blk_drew ?_ | refine blk_alloc ?_ _)); exact BK224.out)) : gb227 ≠ gb224)); clear HO_3; clear BK224; clear HB; have HO_3 := n0_; have BK224 := n1_; have HB := n2_; have BK227 := n3_; have GW227 := n4_; have GE227 := n5_; have NB224_227 := n6_; have NB227_224 := n7_; clear n0_ n1_ n2_ n3_ n4_ n5_ n6_ n7_; clear hb hbox hg; have hnb20 := NB227_224.out; have hnc20 := NB224_227.out; have hcz21_0 : w19.cell? ⟨gb227, 0, none⟩ = some (.int .i64 0) := (blk_cell BK227.out 0).trans rfl; have hcz21_1 : w19.cell? ⟨gb227, 1, none⟩ = some (.string (⟨#[]⟩ : ByteArray)) := (blk_cell BK227.out 1).trans rfl; have hcz21_2 : w19.cell? ⟨gb227, 2, none⟩ = some (.int .i64 0) := (blk_cell BK227.out 2).trans rfl; have hfz21_0 := blk_frozen BK227.out 0; have hfz21_1 := blk_frozen BK227.out 1; have hfz21_2 := blk_frozen BK227.out 2)); go_upto_region 11 with (first | ((with_reducible refine gate_dst (N := 7) rfl ?_); (try (refine gate_guard (by rfl) ?_; dsimp only)); refine box_event ?hg (N := 7) ?hd (cs := #[.int .i64 0, .string (⟨#[]⟩ : ByteArray), .int .i64 0]) (t := 32) ?hr ?_; (case hd => rfl); (case hg => rfl); (case hr => first | (go_simp; done) | (go_simp; rfl)); intro gb227 hg w19 hbox hb; have n0_ := Aside0.mk (Kd.R_below (Kd.R_elderB (by (with_reducible repeat (first | apply Kd.R_alloc | apply Kd.R_drewN | apply Kd.R_drew)); exact HO_3.out) gb227 (Nat.le_of_eq hg.symm)) hb); have n1_ := Aside0.mk (blk_below (g := gb224) (o := .cells #[.int .i64 t222, .int .i64 t223] 26 (0, 0)) (by (with_reducible repeat (first | refine blk_drewN ?_ _ | refine blk_drew ?_ | refine blk_alloc ?_ _)); exact BK224.out) hb); have n2_ := Aside0.mk (below_step (by repeat (first | (with_reducible first | exact HB.out | apply below_alloc | apply pw_below_drewN | apply below_drew1 | refine below_set ?_ GE224.out) | exact HB.out)) hb); have n3_ := Aside0.mk (hbox); have n4_ := Aside0.mk ((by rw [hg]; exact (below_size (by repeat (first | (with_reducible first | exact HB.out | apply below_alloc | apply pw_below_drewN | apply below_drew1 | refine below_set ?_ GE224.out) | exact HB.out))) : w.heap.size ≤ gb227)); have n5_ := Aside0.mk ((by rw [hg]; exact (below_size (by repeat (first | (with_reducible first | exact HB.out | apply below_alloc | apply pw_below_drewN | apply below_drew1 | refine below_set ?_ GE224.out) | exact HB.out))) : w.heap.size ≤ gb227)); have n6_ := Aside0.mk ((by rw [hg]; exact Nat.ne_of_lt (blk_lt (g := gb224) (o := .cells #[.int .i64 t222, .int .i64 t223] 26 (0, 0)) (by (with_reducible repeat (first | refine blk_drewN ?_ _ | refine blk_drew ?_ | refine blk_alloc ?_ _)); exact BK224.out)) : gb224 ≠ gb227)); have n7_ := Aside0.mk ((by rw [hg]; exact Nat.ne_of_gt (blk_lt (g := gb224) (o := .cells #[.int .i64 t222, .int .i64 t223] 26 (0, 0)) (by (with_reducible repeat (first | refine blk_drewN ?_ _ | refine blk_drew ?_ | refine blk_alloc ?_ _)); exact BK224.out)) : gb227 ≠ gb224)); clear HO_3; clear BK224; clear HB; have HO_3 := n0_; have BK224 := n1_; have HB := n2_; have BK227 := n3_; have GW227 := n4_; have GE227 := n5_; have NB224_227 := n6_; have NB227_224 := n7_; clear n0_ n1_ n2_ n3_ n4_ n5_ n6_ n7_; clear hb hbox hg; have hnb20 := NB227_224.out; have hnc20 := NB224_227.out; have hcz21_0 : w19.cell? ⟨gb227, 0, none⟩ = some (.int .i64 0) := (blk_cell BK227.out 0).trans rfl; have hcz21_1 : w19.cell? ⟨gb227, 1, none⟩ = some (.string (⟨#[]⟩ : ByteArray)) := (blk_cell BK227.out 1).trans rfl; have hcz21_2 : w19.cell? ⟨gb227, 2, none⟩ = some (.int .i64 0) := (blk_cell BK227.out 2).trans rfl; have hfz21_0 := blk_frozen BK227.out 0; have hfz21_1 := blk_frozen BK227.out 1; have hfz21_2 := blk_frozen BK227.out 2)))
                  (try simp only [Act.put, List.setIfInBounds_toArray, List.set_cons_zero, List.set_cons_succ])
                  go_cut [98] (fun v98 wc => ∃ (kq : Nat) (x98_16 : Bool), v98 = .bool x98_16 ∧ Aside0 (ballcocklaw05_LexPlaces.j2 kq a0 t219 x6_2 x98_16 ((rd_T32 t219 x6_2).f0) ((rd_T32 t219 x6_2).f1) ((rd_T32 t219 x6_2).f2) = some r) ∧ Aside0 (kq ≤ k2) ∧ Aside0 (Kd.R k32 32 wc w.heap.size (fun k_ => k_ ≠ gb227) (.slice (some ad226) t219.length co18) t219) ∧ Aside0 (wc.heap[gb224]? = some (.cells #[.int .i64 t222, .int .i64 t223] 26 (0, 0))) ∧ Aside0 (wc.heap[gb227]? = some (.cells #[.int .i64 ((rd_T32 t219 x6_2).f0), .string ((rd_T32 t219 x6_2).f1), .int .i64 ((rd_T32 t219 x6_2).f2)] 32 (0, 0))) ∧ Aside0 (Below w.heap.size w wc))
                  case first =>
                    have H := HC17.out
                    clear HC17
                    by_cases c22 : ((rd_T32 t219 x6_2).f2) < x5_2
                    · rw [if_pos c22] at H
                      have c22b0 : decide (((rd_T32 t219 x6_2).f2) < x5_2) = true := decide_eq_true c22
                      clear c22
                      (first | rw [c22b0] | (simp only [i64_w, i32_w]; rw [c22b0]) | skip)
                      have H' := Aside0.mk H
                      clear H
                      have hnb23 := NB227_224.out
                      have hnc23 := NB224_227.out
                      have hcz24_0 : w19.cell? ⟨gb227, 0, none⟩ = some (.int .i64 0) := (blk_cell BK227.out 0).trans rfl
                      have hcz24_1 : w19.cell? ⟨gb227, 1, none⟩ = some (.string (⟨#[]⟩ : ByteArray)) := (blk_cell BK227.out 1).trans rfl
                      have hcz24_2 : w19.cell? ⟨gb227, 2, none⟩ = some (.int .i64 0) := (blk_cell BK227.out 2).trans rfl
                      have hfz24_0 := blk_frozen BK227.out 0
                      have hfz24_1 := blk_frozen BK227.out 1
                      have hfz24_2 := blk_frozen BK227.out 2
                      go_wp2
                      repeat (go_quiet (fail); try go_wp2)
                      go_meet
                      case rel => exact ⟨_, (true), (by first | rfl | (simp; done) | (simp [*]; done) | (simp [bne]; done) | (generalize (((rd_T32 t219 x6_2).f1).toList == ([] : List UInt8)) = A9_; generalize (((rd_T32 t219 x6_2).f0) == 3) = B9_; cases A9_ <;> cases B9_ <;> rfl)), H', ⟨by have := HJ1.out; have := HK2.out; first | omega | exact Nat.le_refl _⟩, ⟨by (with_reducible repeat (first | apply Kd.R_alloc | apply Kd.R_drewN | apply Kd.R_drew)); exact Kd.R_mono (Kd.R_far (p := ⟨gb227, 2, none⟩) (Kd.R_far (p := ⟨gb227, 1, none⟩) (Kd.R_far (p := ⟨gb227, 0, none⟩) (Kd.R_mono HO_3.out (fun k_ hk => (⟨hk, hk.2⟩ : _ ∧ k_ ≠ gb227))) (fun _ hk => hk.2) (.int .i64 ((rd_T32 t219 x6_2).f0))) (fun _ hk => hk.2) (.string ((rd_T32 t219 x6_2).f1))) (fun _ hk => hk.2) (.int .i64 ((rd_T32 t219 x6_2).f2))) (fun _ hk => hk.1.2)⟩, ⟨by (with_reducible repeat (first | refine blk_drewN ?_ _ | refine blk_drew ?_ | refine blk_alloc ?_ _)); refine blk_far ?_ NB224_227.out _; (with_reducible repeat (first | refine blk_drewN ?_ _ | refine blk_drew ?_ | refine blk_alloc ?_ _)); refine blk_far ?_ NB224_227.out _; (with_reducible repeat (first | refine blk_drewN ?_ _ | refine blk_drew ?_ | refine blk_alloc ?_ _)); refine blk_far ?_ NB224_227.out _; (with_reducible repeat (first | refine blk_drewN ?_ _ | refine blk_drew ?_ | refine blk_alloc ?_ _)); exact BK224.out⟩, ⟨by (with_reducible repeat (first | refine blk_drewN ?_ _ | refine blk_drew ?_ | refine blk_alloc ?_ _)); refine blk_put (cs := #[.int .i64 ((rd_T32 t219 x6_2).f0), .string ((rd_T32 t219 x6_2).f1), .int .i64 0]) ?_ 2 _ rfl; (with_reducible repeat (first | refine blk_drewN ?_ _ | refine blk_drew ?_ | refine blk_alloc ?_ _)); refine blk_put (cs := #[.int .i64 ((rd_T32 t219 x6_2).f0), .string (⟨#[]⟩ : ByteArray), .int .i64 0]) ?_ 1 _ rfl; (with_reducible repeat (first | refine blk_drewN ?_ _ | refine blk_drew ?_ | refine blk_alloc ?_ _)); refine blk_put (cs := #[.int .i64 0, .string (⟨#[]⟩ : ByteArray), .int .i64 0]) ?_ 0 _ rfl; (with_reducible repeat (first | refine blk_drewN ?_ _ | refine blk_drew ?_ | refine blk_alloc ?_ _)); exact BK227.out⟩, ⟨by repeat (first | (with_reducible first | exact HB.out | apply below_alloc | apply pw_below_drewN | apply below_drew1 | refine below_set ?_ GE224.out | refine below_set ?_ GE227.out) | exact HB.out)⟩⟩
                    · rw [if_neg c22] at H
                      have c22b0 : decide (((rd_T32 t219 x6_2).f2) < x5_2) = false := decide_eq_false c22
                      clear c22
                      (first | rw [c22b0] | (simp only [i64_w, i32_w]; rw [c22b0]) | skip)
                      obtain ⟨ji25, hji25⟩ : ∃ j_ : Int, (wrap64 (((rd_T32 t219 x6_2).f2) + (((rd_T32 t219 x6_2).f1).size : Int))) = j_ := ⟨_, rfl⟩
                      replace H : (if (ji25) > (a0.size : Int) then (ballcocklaw05_LexPlaces.j2 k2 a0 t219 x6_2 true ((rd_T32 t219 x6_2).f0) ((rd_T32 t219 x6_2).f1) ((rd_T32 t219 x6_2).f2)) else (if 0 ≤ ((rd_T32 t219 x6_2).f2) then (if ((rd_T32 t219 x6_2).f2) ≤ (ji25) then (if (ji25) ≤ (a0.size : Int) then (if (a0.extract (((rd_T32 t219 x6_2).f2) : Int).toNat ((ji25) : Int).toNat).toList = ((rd_T32 t219 x6_2).f1).toList then (if ((((rd_T32 t219 x6_2).f0) == 3) != (x6_2 == (wrap64 ((t219.length : Int) - 1)))) = true then (ballcocklaw05_LexPlaces.j2 k2 a0 t219 x6_2 true ((rd_T32 t219 x6_2).f0) ((rd_T32 t219 x6_2).f1) ((rd_T32 t219 x6_2).f2)) else (ballcocklaw05_LexPlaces.j2 k2 a0 t219 x6_2 ((((rd_T32 t219 x6_2).f1).toList == ([] : List UInt8)) != (((rd_T32 t219 x6_2).f0) == 3)) ((rd_T32 t219 x6_2).f0) ((rd_T32 t219 x6_2).f1) ((rd_T32 t219 x6_2).f2))) else (ballcocklaw05_LexPlaces.j2 k2 a0 t219 x6_2 true ((rd_T32 t219 x6_2).f0) ((rd_T32 t219 x6_2).f1) ((rd_T32 t219 x6_2).f2))) else (none)) else (none)) else (none))) = some r := by first | (rw [hji25] at H; exact H) | (simp only [hji25] at H ⊢; exact H)
                      have hji25w : (IntKind.i64.wrap (((rd_T32 t219 x6_2).f2) + (((rd_T32 t219 x6_2).f1).size : Int))) = ji25 := (i64_w _).trans hji25
                      by_cases c26 : (ji25) > (a0.size : Int)
                      · rw [if_pos c26] at H
                        have c26b0 : decide ((a0.size : Int) < (ji25)) = true := decide_eq_true c26
                        clear c26
                        have H' := Aside0.mk H
                        clear H
                        have hnb27 := NB227_224.out
                        have hnc27 := NB224_227.out
                        have hcz28_0 : w19.cell? ⟨gb227, 0, none⟩ = some (.int .i64 0) := (blk_cell BK227.out 0).trans rfl
                        have hcz28_1 : w19.cell? ⟨gb227, 1, none⟩ = some (.string (⟨#[]⟩ : ByteArray)) := (blk_cell BK227.out 1).trans rfl
                        have hcz28_2 : w19.cell? ⟨gb227, 2, none⟩ = some (.int .i64 0) := (blk_cell BK227.out 2).trans rfl
                        have hfz28_0 := blk_frozen BK227.out 0
                        have hfz28_1 := blk_frozen BK227.out 1
                        have hfz28_2 := blk_frozen BK227.out 2
                        go_wp2
                        repeat (go_quiet (fail); try go_wp2)
                        go_meet
                        case rel => exact ⟨_, (true), (by first | rfl | (simp; done) | (simp [*]; done) | (simp [bne]; done) | (generalize (((rd_T32 t219 x6_2).f1).toList == ([] : List UInt8)) = A9_; generalize (((rd_T32 t219 x6_2).f0) == 3) = B9_; cases A9_ <;> cases B9_ <;> rfl)), H', ⟨by have := HJ1.out; have := HK2.out; first | omega | exact Nat.le_refl _⟩, ⟨by (with_reducible repeat (first | apply Kd.R_alloc | apply Kd.R_drewN | apply Kd.R_drew)); exact Kd.R_mono (Kd.R_far (p := ⟨gb227, 2, none⟩) (Kd.R_far (p := ⟨gb227, 1, none⟩) (Kd.R_far (p := ⟨gb227, 0, none⟩) (Kd.R_mono HO_3.out (fun k_ hk => (⟨hk, hk.2⟩ : _ ∧ k_ ≠ gb227))) (fun _ hk => hk.2) (.int .i64 ((rd_T32 t219 x6_2).f0))) (fun _ hk => hk.2) (.string ((rd_T32 t219 x6_2).f1))) (fun _ hk => hk.2) (.int .i64 ((rd_T32 t219 x6_2).f2))) (fun _ hk => hk.1.2)⟩, ⟨by (with_reducible repeat (first | refine blk_drewN ?_ _ | refine blk_drew ?_ | refine blk_alloc ?_ _)); refine blk_far ?_ NB224_227.out _; (with_reducible repeat (first | refine blk_drewN ?_ _ | refine blk_drew ?_ | refine blk_alloc ?_ _)); refine blk_far ?_ NB224_227.out _; (with_reducible repeat (first | refine blk_drewN ?_ _ | refine blk_drew ?_ | refine blk_alloc ?_ _)); refine blk_far ?_ NB224_227.out _; (with_reducible repeat (first | refine blk_drewN ?_ _ | refine blk_drew ?_ | refine blk_alloc ?_ _)); exact BK224.out⟩, ⟨by (with_reducible repeat (first | refine blk_drewN ?_ _ | refine blk_drew ?_ | refine blk_alloc ?_ _)); refine blk_put (cs := #[.int .i64 ((rd_T32 t219 x6_2).f0), .string ((rd_T32 t219 x6_2).f1), .int .i64 0]) ?_ 2 _ rfl; (with_reducible repeat (first | refine blk_drewN ?_ _ | refine blk_drew ?_ | refine blk_alloc ?_ _)); refine blk_put (cs := #[.int .i64 ((rd_T32 t219 x6_2).f0), .string (⟨#[]⟩ : ByteArray), .int .i64 0]) ?_ 1 _ rfl; (with_reducible repeat (first | refine blk_drewN ?_ _ | refine blk_drew ?_ | refine blk_alloc ?_ _)); refine blk_put (cs := #[.int .i64 0, .string (⟨#[]⟩ : ByteArray), .int .i64 0]) ?_ 0 _ rfl; (with_reducible repeat (first | refine blk_drewN ?_ _ | refine blk_drew ?_ | refine blk_alloc ?_ _)); exact BK227.out⟩, ⟨by repeat (first | (with_reducible first | exact HB.out | apply below_alloc | apply pw_below_drewN | apply below_drew1 | refine below_set ?_ GE224.out | refine below_set ?_ GE227.out) | exact HB.out)⟩⟩
                      · rw [if_neg c26] at H
                        have c26b0 : decide ((a0.size : Int) < (ji25)) = false := decide_eq_false c26
                        clear c26
                        by_cases c29 : 0 ≤ ((rd_T32 t219 x6_2).f2)
                        · rw [if_pos c29] at H
                          have c29b0 := eq_true c29
                          have c29b1 : decide (0 ≤ ((rd_T32 t219 x6_2).f2)) = true := decide_eq_true c29
                          clear c29
                          by_cases c30 : ((rd_T32 t219 x6_2).f2) ≤ (ji25)
                          · rw [if_pos c30] at H
                            have c30b0 := eq_true c30
                            have c30b1 : decide (((rd_T32 t219 x6_2).f2) ≤ (ji25)) = true := decide_eq_true c30
                            clear c30
                            by_cases c31 : (ji25) ≤ (a0.size : Int)
                            · rw [if_pos c31] at H
                              have c31b0 := eq_true c31
                              have c31b1 : decide ((ji25) ≤ (a0.size : Int)) = true := decide_eq_true c31
                              clear c31
                              by_cases c32 : (a0.extract (((rd_T32 t219 x6_2).f2) : Int).toNat ((ji25) : Int).toNat).toList = ((rd_T32 t219 x6_2).f1).toList
                              · rw [if_pos c32] at H
                                have c32b0 : ((a0.extract (((rd_T32 t219 x6_2).f2) : Int).toNat ((ji25) : Int).toNat).toList == ((rd_T32 t219 x6_2).f1).toList) = true := beq_iff_eq.mpr c32
                                have c32b1 : ((a0.extract (((rd_T32 t219 x6_2).f2) : Int).toNat ((ji25) : Int).toNat).toList != ((rd_T32 t219 x6_2).f1).toList) = false := bne_eq_false_iff_eq.mpr c32
                                clear c32
                                obtain ⟨ji33, hji33⟩ : ∃ j_ : Int, (wrap64 ((t219.length : Int) - 1)) = j_ := ⟨_, rfl⟩
                                replace H : (if ((((rd_T32 t219 x6_2).f0) == 3) != (x6_2 == (ji33))) = true then (ballcocklaw05_LexPlaces.j2 k2 a0 t219 x6_2 true ((rd_T32 t219 x6_2).f0) ((rd_T32 t219 x6_2).f1) ((rd_T32 t219 x6_2).f2)) else (ballcocklaw05_LexPlaces.j2 k2 a0 t219 x6_2 ((((rd_T32 t219 x6_2).f1).toList == ([] : List UInt8)) != (((rd_T32 t219 x6_2).f0) == 3)) ((rd_T32 t219 x6_2).f0) ((rd_T32 t219 x6_2).f1) ((rd_T32 t219 x6_2).f2))) = some r := by first | (rw [hji33] at H; exact H) | (simp only [hji33] at H ⊢; exact H)
                                have hji33w : (IntKind.i64.wrap ((t219.length : Int) - 1)) = ji33 := (i64_w _).trans hji33
                                by_cases c34 : ((((rd_T32 t219 x6_2).f0) == 3) != (x6_2 == (ji33))) = true
                                · rw [if_pos c34] at H
                                  have c34b0 : ((((rd_T32 t219 x6_2).f0) == 3) != (x6_2 == (ji33))) = true := c34
                                  (try (have c34b1 : decide ((((rd_T32 t219 x6_2).f0) == 3) = (x6_2 == (ji33))) = false := by simpa using c34))
                                  (try (have c34b2 : ((((rd_T32 t219 x6_2).f0) == 3) == (x6_2 == (ji33))) = false := by simpa using c34))
                                  (try (have c34b3 : ¬ ((((rd_T32 t219 x6_2).f0) == 3) = (x6_2 == (ji33))) := by simpa using c34))
                                  (try (have c34b4 : ((!((((rd_T32 t219 x6_2).f0) == 3) == (x6_2 == (ji33))))) = true := by simpa [bne] using c34))
                                  clear c34
                                  have H' := Aside0.mk H
                                  clear H
                                  have hnb35 := NB227_224.out
                                  have hnc35 := NB224_227.out
                                  have hcz36_0 : w19.cell? ⟨gb227, 0, none⟩ = some (.int .i64 0) := (blk_cell BK227.out 0).trans rfl
                                  have hcz36_1 : w19.cell? ⟨gb227, 1, none⟩ = some (.string (⟨#[]⟩ : ByteArray)) := (blk_cell BK227.out 1).trans rfl
                                  have hcz36_2 : w19.cell? ⟨gb227, 2, none⟩ = some (.int .i64 0) := (blk_cell BK227.out 2).trans rfl
                                  have hfz36_0 := blk_frozen BK227.out 0
                                  have hfz36_1 := blk_frozen BK227.out 1
                                  have hfz36_2 := blk_frozen BK227.out 2
                                  go_wp2
                                  repeat (go_quiet (fail); try go_wp2)
                                  go_meet
                                  case rel => exact ⟨_, (true), (by first | rfl | (simp; done) | (simp [*]; done) | (simp [bne]; done) | (generalize (((rd_T32 t219 x6_2).f1).toList == ([] : List UInt8)) = A9_; generalize (((rd_T32 t219 x6_2).f0) == 3) = B9_; cases A9_ <;> cases B9_ <;> rfl)), H', ⟨by have := HJ1.out; have := HK2.out; first | omega | exact Nat.le_refl _⟩, ⟨by (with_reducible repeat (first | apply Kd.R_alloc | apply Kd.R_drewN | apply Kd.R_drew)); exact Kd.R_mono (Kd.R_far (p := ⟨gb227, 2, none⟩) (Kd.R_far (p := ⟨gb227, 1, none⟩) (Kd.R_far (p := ⟨gb227, 0, none⟩) (Kd.R_mono HO_3.out (fun k_ hk => (⟨hk, hk.2⟩ : _ ∧ k_ ≠ gb227))) (fun _ hk => hk.2) (.int .i64 ((rd_T32 t219 x6_2).f0))) (fun _ hk => hk.2) (.string ((rd_T32 t219 x6_2).f1))) (fun _ hk => hk.2) (.int .i64 ((rd_T32 t219 x6_2).f2))) (fun _ hk => hk.1.2)⟩, ⟨by (with_reducible repeat (first | refine blk_drewN ?_ _ | refine blk_drew ?_ | refine blk_alloc ?_ _)); refine blk_far ?_ NB224_227.out _; (with_reducible repeat (first | refine blk_drewN ?_ _ | refine blk_drew ?_ | refine blk_alloc ?_ _)); refine blk_far ?_ NB224_227.out _; (with_reducible repeat (first | refine blk_drewN ?_ _ | refine blk_drew ?_ | refine blk_alloc ?_ _)); refine blk_far ?_ NB224_227.out _; (with_reducible repeat (first | refine blk_drewN ?_ _ | refine blk_drew ?_ | refine blk_alloc ?_ _)); exact BK224.out⟩, ⟨by (with_reducible repeat (first | refine blk_drewN ?_ _ | refine blk_drew ?_ | refine blk_alloc ?_ _)); refine blk_put (cs := #[.int .i64 ((rd_T32 t219 x6_2).f0), .string ((rd_T32 t219 x6_2).f1), .int .i64 0]) ?_ 2 _ rfl; (with_reducible repeat (first | refine blk_drewN ?_ _ | refine blk_drew ?_ | refine blk_alloc ?_ _)); refine blk_put (cs := #[.int .i64 ((rd_T32 t219 x6_2).f0), .string (⟨#[]⟩ : ByteArray), .int .i64 0]) ?_ 1 _ rfl; (with_reducible repeat (first | refine blk_drewN ?_ _ | refine blk_drew ?_ | refine blk_alloc ?_ _)); refine blk_put (cs := #[.int .i64 0, .string (⟨#[]⟩ : ByteArray), .int .i64 0]) ?_ 0 _ rfl; (with_reducible repeat (first | refine blk_drewN ?_ _ | refine blk_drew ?_ | refine blk_alloc ?_ _)); exact BK227.out⟩, ⟨by repeat (first | (with_reducible first | exact HB.out | apply below_alloc | apply pw_below_drewN | apply below_drew1 | refine below_set ?_ GE224.out | refine below_set ?_ GE227.out) | exact HB.out)⟩⟩
                                · rw [if_neg c34] at H
                                  have c34b0 : ((((rd_T32 t219 x6_2).f0) == 3) != (x6_2 == (ji33))) = false := by simpa using c34
                                  (try (have c34b1 : decide ((((rd_T32 t219 x6_2).f0) == 3) = (x6_2 == (ji33))) = true := by simpa using c34))
                                  (try (have c34b2 : ((((rd_T32 t219 x6_2).f0) == 3) == (x6_2 == (ji33))) = true := by simpa using c34))
                                  (try (have c34b3 : ((!((((rd_T32 t219 x6_2).f0) == 3) == (x6_2 == (ji33))))) = false := by simpa [bne] using c34))
                                  clear c34
                                  have H' := Aside0.mk H
                                  clear H
                                  have hnb37 := NB227_224.out
                                  have hnc37 := NB224_227.out
                                  have hcz38_0 : w19.cell? ⟨gb227, 0, none⟩ = some (.int .i64 0) := (blk_cell BK227.out 0).trans rfl
                                  have hcz38_1 : w19.cell? ⟨gb227, 1, none⟩ = some (.string (⟨#[]⟩ : ByteArray)) := (blk_cell BK227.out 1).trans rfl
                                  have hcz38_2 : w19.cell? ⟨gb227, 2, none⟩ = some (.int .i64 0) := (blk_cell BK227.out 2).trans rfl
                                  have hfz38_0 := blk_frozen BK227.out 0
                                  have hfz38_1 := blk_frozen BK227.out 1
                                  have hfz38_2 := blk_frozen BK227.out 2
                                  go_wp2
                                  repeat (go_quiet (fail); try go_wp2)
                                  go_meet
                                  case rel => exact ⟨_, (((((rd_T32 t219 x6_2).f1).toList == ([] : List UInt8)) != (((rd_T32 t219 x6_2).f0) == 3))), (by first | rfl | (simp; done) | (simp [*]; done) | (simp [bne]; done) | (generalize (((rd_T32 t219 x6_2).f1).toList == ([] : List UInt8)) = A9_; generalize (((rd_T32 t219 x6_2).f0) == 3) = B9_; cases A9_ <;> cases B9_ <;> rfl)), H', ⟨by have := HJ1.out; have := HK2.out; first | omega | exact Nat.le_refl _⟩, ⟨by (with_reducible repeat (first | apply Kd.R_alloc | apply Kd.R_drewN | apply Kd.R_drew)); exact Kd.R_mono (Kd.R_far (p := ⟨gb227, 2, none⟩) (Kd.R_far (p := ⟨gb227, 1, none⟩) (Kd.R_far (p := ⟨gb227, 0, none⟩) (Kd.R_mono HO_3.out (fun k_ hk => (⟨hk, hk.2⟩ : _ ∧ k_ ≠ gb227))) (fun _ hk => hk.2) (.int .i64 ((rd_T32 t219 x6_2).f0))) (fun _ hk => hk.2) (.string ((rd_T32 t219 x6_2).f1))) (fun _ hk => hk.2) (.int .i64 ((rd_T32 t219 x6_2).f2))) (fun _ hk => hk.1.2)⟩, ⟨by (with_reducible repeat (first | refine blk_drewN ?_ _ | refine blk_drew ?_ | refine blk_alloc ?_ _)); refine blk_far ?_ NB224_227.out _; (with_reducible repeat (first | refine blk_drewN ?_ _ | refine blk_drew ?_ | refine blk_alloc ?_ _)); refine blk_far ?_ NB224_227.out _; (with_reducible repeat (first | refine blk_drewN ?_ _ | refine blk_drew ?_ | refine blk_alloc ?_ _)); refine blk_far ?_ NB224_227.out _; (with_reducible repeat (first | refine blk_drewN ?_ _ | refine blk_drew ?_ | refine blk_alloc ?_ _)); exact BK224.out⟩, ⟨by (with_reducible repeat (first | refine blk_drewN ?_ _ | refine blk_drew ?_ | refine blk_alloc ?_ _)); refine blk_put (cs := #[.int .i64 ((rd_T32 t219 x6_2).f0), .string ((rd_T32 t219 x6_2).f1), .int .i64 0]) ?_ 2 _ rfl; (with_reducible repeat (first | refine blk_drewN ?_ _ | refine blk_drew ?_ | refine blk_alloc ?_ _)); refine blk_put (cs := #[.int .i64 ((rd_T32 t219 x6_2).f0), .string (⟨#[]⟩ : ByteArray), .int .i64 0]) ?_ 1 _ rfl; (with_reducible repeat (first | refine blk_drewN ?_ _ | refine blk_drew ?_ | refine blk_alloc ?_ _)); refine blk_put (cs := #[.int .i64 0, .string (⟨#[]⟩ : ByteArray), .int .i64 0]) ?_ 0 _ rfl; (with_reducible repeat (first | refine blk_drewN ?_ _ | refine blk_drew ?_ | refine blk_alloc ?_ _)); exact BK227.out⟩, ⟨by repeat (first | (with_reducible first | exact HB.out | apply below_alloc | apply pw_below_drewN | apply below_drew1 | refine below_set ?_ GE224.out | refine below_set ?_ GE227.out) | exact HB.out)⟩⟩
                              · rw [if_neg c32] at H
                                have c32b0 : ((a0.extract (((rd_T32 t219 x6_2).f2) : Int).toNat ((ji25) : Int).toNat).toList == ((rd_T32 t219 x6_2).f1).toList) = false := beq_eq_false_iff_ne.mpr c32
                                have c32b1 : ((a0.extract (((rd_T32 t219 x6_2).f2) : Int).toNat ((ji25) : Int).toNat).toList != ((rd_T32 t219 x6_2).f1).toList) = true := bne_iff_ne.mpr c32
                                have H' := Aside0.mk H
                                clear H
                                have hnb39 := NB227_224.out
                                have hnc39 := NB224_227.out
                                have hcz40_0 : w19.cell? ⟨gb227, 0, none⟩ = some (.int .i64 0) := (blk_cell BK227.out 0).trans rfl
                                have hcz40_1 : w19.cell? ⟨gb227, 1, none⟩ = some (.string (⟨#[]⟩ : ByteArray)) := (blk_cell BK227.out 1).trans rfl
                                have hcz40_2 : w19.cell? ⟨gb227, 2, none⟩ = some (.int .i64 0) := (blk_cell BK227.out 2).trans rfl
                                have hfz40_0 := blk_frozen BK227.out 0
                                have hfz40_1 := blk_frozen BK227.out 1
                                have hfz40_2 := blk_frozen BK227.out 2
                                go_wp2
                                repeat (go_quiet (fail); try go_wp2)
                                go_meet
                                case rel => exact ⟨_, (true), (by first | rfl | (simp; done) | (simp [*]; done) | (simp [bne]; done) | (generalize (((rd_T32 t219 x6_2).f1).toList == ([] : List UInt8)) = A9_; generalize (((rd_T32 t219 x6_2).f0) == 3) = B9_; cases A9_ <;> cases B9_ <;> rfl)), H', ⟨by have := HJ1.out; have := HK2.out; first | omega | exact Nat.le_refl _⟩, ⟨by (with_reducible repeat (first | apply Kd.R_alloc | apply Kd.R_drewN | apply Kd.R_drew)); exact Kd.R_mono (Kd.R_far (p := ⟨gb227, 2, none⟩) (Kd.R_far (p := ⟨gb227, 1, none⟩) (Kd.R_far (p := ⟨gb227, 0, none⟩) (Kd.R_mono HO_3.out (fun k_ hk => (⟨hk, hk.2⟩ : _ ∧ k_ ≠ gb227))) (fun _ hk => hk.2) (.int .i64 ((rd_T32 t219 x6_2).f0))) (fun _ hk => hk.2) (.string ((rd_T32 t219 x6_2).f1))) (fun _ hk => hk.2) (.int .i64 ((rd_T32 t219 x6_2).f2))) (fun _ hk => hk.1.2)⟩, ⟨by (with_reducible repeat (first | refine blk_drewN ?_ _ | refine blk_drew ?_ | refine blk_alloc ?_ _)); refine blk_far ?_ NB224_227.out _; (with_reducible repeat (first | refine blk_drewN ?_ _ | refine blk_drew ?_ | refine blk_alloc ?_ _)); refine blk_far ?_ NB224_227.out _; (with_reducible repeat (first | refine blk_drewN ?_ _ | refine blk_drew ?_ | refine blk_alloc ?_ _)); refine blk_far ?_ NB224_227.out _; (with_reducible repeat (first | refine blk_drewN ?_ _ | refine blk_drew ?_ | refine blk_alloc ?_ _)); exact BK224.out⟩, ⟨by (with_reducible repeat (first | refine blk_drewN ?_ _ | refine blk_drew ?_ | refine blk_alloc ?_ _)); refine blk_put (cs := #[.int .i64 ((rd_T32 t219 x6_2).f0), .string ((rd_T32 t219 x6_2).f1), .int .i64 0]) ?_ 2 _ rfl; (with_reducible repeat (first | refine blk_drewN ?_ _ | refine blk_drew ?_ | refine blk_alloc ?_ _)); refine blk_put (cs := #[.int .i64 ((rd_T32 t219 x6_2).f0), .string (⟨#[]⟩ : ByteArray), .int .i64 0]) ?_ 1 _ rfl; (with_reducible repeat (first | refine blk_drewN ?_ _ | refine blk_drew ?_ | refine blk_alloc ?_ _)); refine blk_put (cs := #[.int .i64 0, .string (⟨#[]⟩ : ByteArray), .int .i64 0]) ?_ 0 _ rfl; (with_reducible repeat (first | refine blk_drewN ?_ _ | refine blk_drew ?_ | refine blk_alloc ?_ _)); exact BK227.out⟩, ⟨by repeat (first | (with_reducible first | exact HB.out | apply below_alloc | apply pw_below_drewN | apply below_drew1 | refine below_set ?_ GE224.out | refine below_set ?_ GE227.out) | exact HB.out)⟩⟩
                            · rw [if_neg c31] at H
                              exact absurd H (by simp)
                          · rw [if_neg c30] at H
                            exact absurd H (by simp)
                        · rw [if_neg c29] at H
                          exact absurd H (by simp)
                  case rest =>
                    clear HC17
                    try clear c1
                    try clear c2
                    try clear p2
                    try clear q2
                    try clear hx2
                    try clear c3
                    try clear c4
                    try clear p6
                    try clear c7
                    try clear c11
                    try clear c11b0
                    try clear c11b1
                    try clear c15
                    try clear c15b0
                    try clear c16
                    try clear c16b0
                    try clear c20
                    try clear c22
                    try clear c22b0
                    try clear p22
                    try clear q22
                    try clear hx22
                    try clear c23
                    try clear c26
                    try clear c26b0
                    try clear c27
                    try clear c29
                    try clear c29b0
                    try clear c29b1
                    try clear c30
                    try clear c30b0
                    try clear c30b1
                    try clear c31
                    try clear c31b0
                    try clear c31b1
                    try clear c32
                    try clear c32b0
                    try clear c32b1
                    try clear c34
                    try clear c34b0
                    try clear c34b1
                    try clear c34b2
                    try clear c35
                    try clear c37
                    try clear c39
                    try clear hcz14_0
                    try clear hcz14_1
                    try clear hcz21_0
                    try clear hcz21_1
                    try clear hcz21_2
                    try clear hcz24_0
                    try clear hcz24_1
                    try clear hcz24_2
                    try clear hcz28_0
                    try clear hcz28_1
                    try clear hcz28_2
                    try clear hcz36_0
                    try clear hcz36_1
                    try clear hcz36_2
                    try clear hcz38_0
                    try clear hcz38_1
                    try clear hcz38_2
                    try clear hcz40_0
                    try clear hcz40_1
                    try clear hcz40_2
                    try clear hfz14_0
                    try clear hfz14_1
                    try clear hfz21_0
                    try clear hfz21_1
                    try clear hfz21_2
                    try clear hfz24_0
                    try clear hfz24_1
                    try clear hfz24_2
                    try clear hfz28_0
                    try clear hfz28_1
                    try clear hfz28_2
                    try clear hfz36_0
                    try clear hfz36_1
                    try clear hfz36_2
                    try clear hfz38_0
                    try clear hfz38_1
                    try clear hfz38_2
                    try clear hfz40_0
                    try clear hfz40_1
                    try clear hfz40_2
                    try clear hx226_0
                    try clear hx226_1
                    try clear hx226_2
                    try clear p2
                    try clear p226
                    try clear q226
                    obtain ⟨kq, x98_16, rfl, HA, HJ16, HO_3, BK224, BK227, HB⟩ := hcut
                    cases kq with
                    | zero => exact absurd HA.out (by simp [ballcocklaw05_LexPlaces.j2])
                    | succ kj16 =>
                      have H := HA.out
                      clear HA
                      simp only [ballcocklaw05_LexPlaces.j2] at H
                      by_cases c41 : x98_16 = true
                      · subst c41
                        have H1 : (some false) = some r := by rw [if_pos rfl] at H; exact H
                        clear H
                        have H := H1
                        clear H1
                        subst hr_
                        exact absurd H (by simp)
                      · replace c41 := Bool.eq_false_iff.mpr c41
                        subst c41
                        have H1 : (ballcocklaw05_LexPlaces.l0 kj16 a0 t219 (wrap64 (((rd_T32 t219 x6_2).f2) + (((rd_T32 t219 x6_2).f1).size : Int))) (wrap64 (x6_2 + 1))) = some r := by rw [if_neg (show ¬ (false = true) by decide)] at H; exact H
                        clear H
                        have H := H1
                        clear H1
                        have H' := Aside0.mk H
                        clear H
                        have hnb42 := NB227_224.out
                        have hnc42 := NB224_227.out
                        have hcz43_0 : wc.cell? ⟨gb227, 0, none⟩ = some (.int .i64 ((rd_T32 t219 x6_2).f0)) := (blk_cell BK227.out 0).trans rfl
                        have hcz43_1 : wc.cell? ⟨gb227, 1, none⟩ = some (.string ((rd_T32 t219 x6_2).f1)) := (blk_cell BK227.out 1).trans rfl
                        have hcz43_2 : wc.cell? ⟨gb227, 2, none⟩ = some (.int .i64 ((rd_T32 t219 x6_2).f2)) := (blk_cell BK227.out 2).trans rfl
                        have hfz43_0 := blk_frozen BK227.out 0
                        have hfz43_1 := blk_frozen BK227.out 1
                        have hfz43_2 := blk_frozen BK227.out 2
                        go_wp2
                        repeat (go_quiet (fail); try go_wp2)
                        go_roundg kj16
                        case measure => have := HJ1.out; have := HK2.out; have := HJ16.out; omega
                        case rel => exact ⟨(wrap64 (((rd_T32 t219 x6_2).f2) + (((rd_T32 t219 x6_2).f1).size : Int))), (wrap64 (x6_2 + 1)), (by first | rfl | (simp; done) | (simp [*]; done) | (simp [bne]; done) | (generalize (((rd_T32 t219 x6_2).f1).toList == ([] : List UInt8)) = A9_; generalize (((rd_T32 t219 x6_2).f0) == 3) = B9_; cases A9_ <;> cases B9_ <;> rfl)), (by first | rfl | (simp; done) | (simp [*]; done) | (simp [bne]; done) | (generalize (((rd_T32 t219 x6_2).f1).toList == ([] : List UInt8)) = A9_; generalize (((rd_T32 t219 x6_2).f0) == 3) = B9_; cases A9_ <;> cases B9_ <;> rfl)), H', ⟨by have := HJ1.out; have := HK2.out; have := HJ16.out; omega⟩, ⟨by (with_reducible repeat (first | apply Kd.R_alloc | apply Kd.R_drewN | apply Kd.R_drew)); exact Kd.R_mono HO_3.out (fun _ hk => trivial)⟩, ⟨by (with_reducible repeat (first | refine blk_drewN ?_ _ | refine blk_drew ?_ | refine blk_alloc ?_ _)); exact BK224.out⟩, ⟨by repeat (first | (with_reducible first | exact HB.out | apply below_alloc | apply pw_below_drewN | apply below_drew1 | refine below_set ?_ GE224.out | refine below_set ?_ GE227.out) | exact HB.out)⟩⟩
                · rw [if_neg c16] at H
                  exact absurd H (by simp)
              · rw [if_neg c15] at H
                have c15b0 : decide (x6_2 < (t219.length : Int)) = false := decide_eq_false c15
                clear c15
                by_cases c44 : (t219.length : Int) > 0
                · rw [if_pos c44] at H
                  have c44b0 : decide (0 < (t219.length : Int)) = true := decide_eq_true c44
                  have c44b1 : decide (0 < t219.length) = true := decide_eq_true (by omega)
                  clear c44
                  obtain ⟨ji45, hji45⟩ : ∃ j_ : Int, (wrap64 ((t219.length : Int) - 1)) = j_ := ⟨_, rfl⟩
                  replace H : (if 0 ≤ (ji45) then (if (ji45) < (t219.length : Int) then (some (((rd_T32 t219 (ji45)).f2) == (a0.size : Int))) else (none)) else (none)) = some r := by first | (rw [hji45] at H; exact H) | (simp only [hji45] at H ⊢; exact H)
                  have hji45w : (IntKind.i64.wrap ((t219.length : Int) - 1)) = ji45 := (i64_w _).trans hji45
                  by_cases c46 : 0 ≤ (ji45)
                  · rw [if_pos c46] at H
                    have c46b0 : decide (0 ≤ (ji45)) = true := decide_eq_true c46
                    clear c46
                    by_cases c47 : (ji45) < (t219.length : Int)
                    · rw [if_pos c47] at H
                      have c47b0 : decide ((ji45) < (t219.length : Int)) = true := decide_eq_true c47
                      clear c47
                      obtain rfl := Option.some.inj H
                      obtain ⟨Ao48, co48, eo48⟩ := Kd.R_slice HO_3.out
                      subst eo48
                      have p225 : 0 ≤ ((ji45) : Int) := of_decide_eq_true (by first | (with_reducible assumption) | assumption)
                      have q225 : (ji45) < (t219.length : Int) := of_decide_eq_true (by first | (with_reducible assumption) | assumption)
                      obtain ⟨ad225, e225, hx225_0, hx225_1, hx225_2⟩ := at_T32 (Kd.R_reads' HO_3.out).2.2 (ji45) p225 q225
                      cases e225
                      replace p225 := eq_true p225
                      replace q225 := eq_true q225
                      go_wp2
                      repeat (go_quiet (fail); try go_wp2)
                      go_ret
                      exact ⟨by first | rfl | (simp [errW_none, errW_some] <;> rfl) | (simp only [← hji45]; first | rfl | (simp [errW_none, errW_some] <;> rfl)) | (simp [*, errW_none, errW_some] <;> rfl), by repeat (first | (with_reducible first | exact HB.out | apply below_alloc | apply pw_below_drewN | apply below_drew1 | refine below_set ?_ GE224.out) | exact HB.out)⟩
                    · rw [if_neg c47] at H
                      exact absurd H (by simp)
                  · rw [if_neg c46] at H
                    exact absurd H (by simp)
                · rw [if_neg c44] at H
                  have c44b0 : decide (0 < (t219.length : Int)) = false := decide_eq_false c44
                  have c44b1 : decide (0 < t219.length) = false := decide_eq_false (by omega)
                  clear c44
                  subst hr_
                  exact absurd H (by simp)
        · rw [if_neg c11] at H
          have c11b0 : (t222 == 0) = false := beq_eq_false_iff_ne.mpr c11
          have c11b1 : (t222 != 0) = true := bne_iff_ne.mpr c11
          by_cases c49 : (t219.length : Int) = 0
          · rw [if_pos c49] at H
            have c49b0 : ((t219.length : Int) == 0) = true := beq_iff_eq.mpr c49
            have c49b1 : ((t219.length : Int) != 0) = false := bne_eq_false_iff_eq.mpr c49
            clear c49
            by_cases c50 : t223 ≥ 0
            · rw [if_pos c50] at H
              have c50b0 : decide (0 ≤ t223) = true := decide_eq_true c50
              clear c50
              obtain rfl := Option.some.inj H
              go_wp2_with (first | (go_at_call 14; (with_reducible refine (lex_Tokens.calls a0 t219 t222 t223 _ A10.out).mono ?_); rintro e w51 ⟨v220, rfl, ho0, hb⟩; have n0_ := Aside0.mk (Kd.R_lower ho0 (below_size (by repeat (first | (with_reducible first | exact HB.out | apply below_alloc | apply pw_below_drewN | apply below_drew1) | exact HB.out)))); have n1_ := Aside0.mk (below_step (by repeat (first | (with_reducible first | exact HB.out | apply below_alloc | apply pw_below_drewN | apply below_drew1) | exact HB.out)) hb); clear HB; have HO221 := n0_; have HB := n1_; clear n0_ n1_; (try clear hb); (try clear hb2); (try clear hk); (try clear hi); (try clear ho0)) | ((with_reducible refine gate_dst (N := 4) rfl ?_); (try (refine gate_guard (by rfl) ?_; dsimp only)); refine box_event ?hg (N := 4) ?hd (cs := #[.int .i64 0, .int .i64 0]) (t := 26) ?hr ?_; (case hd => rfl); (case hg => rfl); (case hr => first | (go_simp; done) | (go_simp; rfl)); intro gb224 hg w52 hbox hb; have n0_ := Aside0.mk (Kd.R_below (by (with_reducible repeat (first | apply Kd.R_alloc | apply Kd.R_drewN | apply Kd.R_drew)); exact HO221.out) hb); have n1_ := Aside0.mk (below_step (by repeat (first | (with_reducible first | exact HB.out | apply below_alloc | apply pw_below_drewN | apply below_drew1) | exact HB.out)) hb); have n2_ := Aside0.mk (hbox); have n3_ := Aside0.mk ((by rw [hg]; exact (below_size (by repeat (first | (with_reducible first | exact HB.out | apply below_alloc | apply pw_below_drewN | apply below_drew1) | exact HB.out))) : w.heap.size ≤ gb224)); have n4_ := Aside0.mk ((by rw [hg]; exact (below_size (by repeat (first | (with_reducible first | exact HB.out | apply below_alloc | apply pw_below_drewN | apply below_drew1) | exact HB.out))) : w.heap.size ≤ gb224)); clear HO221; clear HB; have HO221 := n0_; have HB := n1_; have BK224 := n2_; have GW224 := n3_; have GE224 := n4_; clear n0_ n1_ n2_ n3_ n4_; clear hb hbox hg; have hcz53_0 : w52.cell? ⟨gb224, 0, none⟩ = some (.int .i64 0) := (blk_cell BK224.out 0).trans rfl; have hcz53_1 : w52.cell? ⟨gb224, 1, none⟩ = some (.int .i64 0) := (blk_cell BK224.out 1).trans rfl; have hfz53_0 := blk_frozen BK224.out 0; have hfz53_1 := blk_frozen BK224.out 1; obtain ⟨Ao54, co54, eo54⟩ := Kd.R_slice HO221.out; subst eo54))
              repeat (go_quiet (first | (go_at_call 14; (with_reducible refine (lex_Tokens.calls a0 t219 t222 t223 _ A10.out).mono ?_); rintro e w51 ⟨v220, rfl, ho0, hb⟩; have n0_ := Aside0.mk (Kd.R_lower ho0 (below_size (by repeat (first | (with_reducible first | exact HB.out | apply below_alloc | apply pw_below_drewN | apply below_drew1) | exact HB.out)))); have n1_ := Aside0.mk (below_step (by repeat (first | (with_reducible first | exact HB.out | apply below_alloc | apply pw_below_drewN | apply below_drew1) | exact HB.out)) hb); clear HB; have HO221 := n0_; have HB := n1_; clear n0_ n1_; (try clear hb); (try clear hb2); (try clear hk); (try clear hi); (try clear ho0)) | ((with_reducible refine gate_dst (N := 4) rfl ?_); (try (refine gate_guard (by rfl) ?_; dsimp only)); refine box_event ?hg (N := 4) ?hd (cs := #[.int .i64 0, .int .i64 0]) (t := 26) ?hr ?_; (case hd => rfl); (case hg => rfl); (case hr => first | (go_simp; done) | (go_simp; rfl)); intro gb224 hg w52 hbox hb; have n0_ := Aside0.mk (Kd.R_below (by (with_reducible repeat (first | apply Kd.R_alloc | apply Kd.R_drewN | apply Kd.R_drew)); exact HO221.out) hb); have n1_ := Aside0.mk (below_step (by repeat (first | (with_reducible first | exact HB.out | apply below_alloc | apply pw_below_drewN | apply below_drew1) | exact HB.out)) hb); have n2_ := Aside0.mk (hbox); have n3_ := Aside0.mk ((by rw [hg]; exact (below_size (by repeat (first | (with_reducible first | exact HB.out | apply below_alloc | apply pw_below_drewN | apply below_drew1) | exact HB.out))) : w.heap.size ≤ gb224)); have n4_ := Aside0.mk ((by rw [hg]; exact (below_size (by repeat (first | (with_reducible first | exact HB.out | apply below_alloc | apply pw_below_drewN | apply below_drew1) | exact HB.out))) : w.heap.size ≤ gb224)); clear HO221; clear HB; have HO221 := n0_; have HB := n1_; have BK224 := n2_; have GW224 := n3_; have GE224 := n4_; clear n0_ n1_ n2_ n3_ n4_; clear hb hbox hg; have hcz53_0 : w52.cell? ⟨gb224, 0, none⟩ = some (.int .i64 0) := (blk_cell BK224.out 0).trans rfl; have hcz53_1 : w52.cell? ⟨gb224, 1, none⟩ = some (.int .i64 0) := (blk_cell BK224.out 1).trans rfl; have hfz53_0 := blk_frozen BK224.out 0; have hfz53_1 := blk_frozen BK224.out 1; obtain ⟨Ao54, co54, eo54⟩ := Kd.R_slice HO221.out; subst eo54)); try go_wp2_with (first | (go_at_call 14; (with_reducible refine (lex_Tokens.calls a0 t219 t222 t223 _ A10.out).mono ?_); rintro e w51 ⟨v220, rfl, ho0, hb⟩; have n0_ := Aside0.mk (Kd.R_lower ho0 (below_size (by repeat (first | (with_reducible first | exact HB.out | apply below_alloc | apply pw_below_drewN | apply below_drew1) | exact HB.out)))); have n1_ := Aside0.mk (below_step (by repeat (first | (with_reducible first | exact HB.out | apply below_alloc | apply pw_below_drewN | apply below_drew1) | exact HB.out)) hb); clear HB; have HO221 := n0_; have HB := n1_; clear n0_ n1_; (try clear hb); (try clear hb2); (try clear hk); (try clear hi); (try clear ho0)) | ((with_reducible refine gate_dst (N := 4) rfl ?_); (try (refine gate_guard (by rfl) ?_; dsimp only)); refine box_event ?hg (N := 4) ?hd (cs := #[.int .i64 0, .int .i64 0]) (t := 26) ?hr ?_; (case hd => rfl); (case hg => rfl); (case hr => first | (go_simp; done) | (go_simp; rfl)); intro gb224 hg w52 hbox hb; have n0_ := Aside0.mk (Kd.R_below (by (with_reducible repeat (first | apply Kd.R_alloc | apply Kd.R_drewN | apply Kd.R_drew)); exact HO221.out) hb); have n1_ := Aside0.mk (below_step (by repeat (first | (with_reducible first | exact HB.out | apply below_alloc | apply pw_below_drewN | apply below_drew1) | exact HB.out)) hb); have n2_ := Aside0.mk (hbox); have n3_ := Aside0.mk ((by rw [hg]; exact (below_size (by repeat (first | (with_reducible first | exact HB.out | apply below_alloc | apply pw_below_drewN | apply below_drew1) | exact HB.out))) : w.heap.size ≤ gb224)); have n4_ := Aside0.mk ((by rw [hg]; exact (below_size (by repeat (first | (with_reducible first | exact HB.out | apply below_alloc | apply pw_below_drewN | apply below_drew1) | exact HB.out))) : w.heap.size ≤ gb224)); clear HO221; clear HB; have HO221 := n0_; have HB := n1_; have BK224 := n2_; have GW224 := n3_; have GE224 := n4_; clear n0_ n1_ n2_ n3_ n4_; clear hb hbox hg; have hcz53_0 : w52.cell? ⟨gb224, 0, none⟩ = some (.int .i64 0) := (blk_cell BK224.out 0).trans rfl; have hcz53_1 : w52.cell? ⟨gb224, 1, none⟩ = some (.int .i64 0) := (blk_cell BK224.out 1).trans rfl; have hfz53_0 := blk_frozen BK224.out 0; have hfz53_1 := blk_frozen BK224.out 1; obtain ⟨Ao54, co54, eo54⟩ := Kd.R_slice HO221.out; subst eo54)))
              go_ret
              exact ⟨by first | rfl | (simp [errW_none, errW_some] <;> rfl) | (simp [*, errW_none, errW_some] <;> rfl), by repeat (first | (with_reducible first | exact HB.out | apply below_alloc | apply pw_below_drewN | apply below_drew1 | refine below_set ?_ GE224.out) | exact HB.out)⟩
            · rw [if_neg c50] at H
              have c50b0 : decide (0 ≤ t223) = false := decide_eq_false c50
              clear c50
              subst hr_
              exact absurd H (by simp)
          · rw [if_neg c49] at H
            have c49b0 : ((t219.length : Int) == 0) = false := beq_eq_false_iff_ne.mpr c49
            have c49b1 : ((t219.length : Int) != 0) = true := bne_iff_ne.mpr c49
            have c49b2 : ¬ (t219 = []) := fun h_ => c49 (by rw [h_]; rfl)
            subst hr_
            exact absurd H (by simp)

/-- THE ONE PURE STATEMENT of ballcocklaw05_LexPlaces: yours. -/
def ballcocklaw05_LexPlaces.Pure : Prop := ∀ (a0 : ByteArray), a0.size ≤ 140737488351232 → ∃ k, ballcocklaw05_LexPlaces.f k a0 = some true
theorem ballcocklaw05_LexPlaces.walk (P : ballcocklaw05_LexPlaces.Pure) (a0 : ByteArray) (w : World) (w0 : a0.size ≤ 140737488351232) :
    Calls Tryd.prog 7 #[.string a0] w fun e w' => e = .returned (.bool true) ∧ Below w.heap.size w w' := by
  obtain ⟨k, h⟩ := P a0 w0
  refine (ballcocklaw05_LexPlaces.calls k a0 true w rfl h).mono ?_
  rintro e w' ⟨rfl, hd⟩
  exact ⟨rfl, hd⟩

end Go.Proofs.YtifjmokilbijlaaDoor.PLex
