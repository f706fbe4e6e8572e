-- Written by a program of this session (wip/myprint.py).
import Derived.Test.YtifjmokilbijlaaDoorPLexx0
import Derived.Test.YtifjmokilbijlaaDoorPLexx1
import Derived.Test.YtifjmokilbijlaaDoorPLexx3
import Derived.Test.YtifjmokilbijlaaDoorPLexx7
namespace Go.Proofs.YtifjmokilbijlaaDoor.PLex
open Go.RowKit Go.Proofs.YtifjmokilbijlaaDoorW.PrintWords Go.Proofs.YtifjmokilbijlaaDoorW.PrintLast Go.Proofs.YtifjmokilbijlaaDoorW.PrintMore
attribute [local go_sem] max2_int min2_int max_two min_two max_three min_three max_four min_four   -- for this text's walks alone
set_option linter.unusedVariables false
set_option linter.unusedSimpArgs false

attribute [local go_sem high] eqA26
/-! ### ballcocklaw05_LexNumbers: function 9 -/
mutual
def ballcocklaw05_LexNumbers.j0 : Nat → Bool → Int → ByteArray → Option (Bool)
  | 0, _, _, _ => none
  | k + 1, x1, x5, x6 => ballcocklaw05_LexNumbers.l0 k x1 x5 x6 0
def ballcocklaw05_LexNumbers.l0 : Nat → Bool → Int → ByteArray → Int → Option (Bool)
  | 0, _, _, _, _ => none
  | k + 1, x1, x5, x6, x7 => if x7 < x5 then (if x6.size + 1 ≤ 9223372036854775807 then (ballcocklaw05_LexNumbers.l0 k x1 x5 (x6 ++ (⟨#[55]⟩ : ByteArray)) (wrap64 (x7 + 1))) else (none)) else ((lex_Tokens.f x6).bind fun bt253 => (if x1 = true then (ballcocklaw05_LexNumbers.j2 k x1 x6 bt253.1 false bt253.2.1 bt253.2.2) else (ballcocklaw05_LexNumbers.j2 k x1 x6 bt253.1 (decide (x5 > 18)) bt253.2.1 bt253.2.2)))
def ballcocklaw05_LexNumbers.j2 : Nat → Bool → ByteArray → List (S32) → Bool → Int → Int → Option (Bool)
  | 0, _, _, _, _, _, _ => none
  | k + 1, x1, x6, x8, x34, x259000, x259001 => if x34 = true then (if (x259000 == 10 && (x259001 == 0)) = true then (some ((x8.length : Int) == 0)) else (some false)) else (if (x259000 == 0 && (x259001 == 0)) = true then (if (x8.length : Int) = 2 then (if 0 < (x8.length : Int) then (if ((rd_T32 x8 0).f1).toList = x6.toList then (if ((((rd_T32 x8 0).f0) == 1) == (!x1)) = true then ((lex_Name.f x6).bind fun t261 => (if x1 = true then (some (t261 == (decide ((x6.size : Int) ≤ 16)))) else (some (t261 == false)))) else (some false)) else (some false)) else (none)) else (some false)) else (some false))
end
def ballcocklaw05_LexNumbers.f (k : Nat) (a0 : Int) (a1 : Bool) : Option (Bool) := (ballcocklaw05_awake.f).bind fun t252 => (if t252 = true then (if a1 = true then (ballcocklaw05_LexNumbers.j0 k a1 (wrap64 (1 + (Int.tmod (wrap64 (a0)) 30))) (⟨#[110]⟩ : ByteArray)) else (ballcocklaw05_LexNumbers.j0 k a1 (wrap64 (1 + (Int.tmod (wrap64 (a0)) 30))) (⟨#[]⟩ : ByteArray))) else (some false))
theorem ballcocklaw05_LexNumbers.mono_l : ∀ k, (∀ y0 y1 y2, LeO (ballcocklaw05_LexNumbers.j0 k y0 y1 y2) (ballcocklaw05_LexNumbers.j0 (k + 1) y0 y1 y2)) ∧ (∀ y0 y1 y2 y3, LeO (ballcocklaw05_LexNumbers.l0 k y0 y1 y2 y3) (ballcocklaw05_LexNumbers.l0 (k + 1) y0 y1 y2 y3)) ∧ (∀ y0 y1 y2 y3 y4 y5, LeO (ballcocklaw05_LexNumbers.j2 k y0 y1 y2 y3 y4 y5) (ballcocklaw05_LexNumbers.j2 (k + 1) y0 y1 y2 y3 y4 y5))
  | 0 => ⟨fun _ _ _ r h => by simp [ballcocklaw05_LexNumbers.j0] at h, fun _ _ _ _ r h => by simp [ballcocklaw05_LexNumbers.l0] at h, fun _ _ _ _ _ _ r h => by simp [ballcocklaw05_LexNumbers.j2] at h⟩
  | k + 1 => by
    obtain ⟨ih0, ih1, ih2⟩ := ballcocklaw05_LexNumbers.mono_l k
    refine ⟨?_, ?_, ?_⟩
    · intro y0 y1 y2
      unfold ballcocklaw05_LexNumbers.j0
      repeat' first
      | (with_reducible exact ih0 _ _ _)
      | (with_reducible exact ih1 _ _ _ _)
      | (with_reducible exact ih2 _ _ _ _ _ _)
      | (with_reducible exact LeO.refl _)
      | (with_reducible exact LeO.none _)
      | (with_reducible refine LeO.ite ?_ ?_)
      | (with_reducible refine LeO.bind ?_ (fun _ => ?_))
      | exact ih0 _ _ _
      | exact ih1 _ _ _ _
      | exact ih2 _ _ _ _ _ _
      | exact LeO.none _
      | refine LeO.ite ?_ ?_
      | refine LeO.bind ?_ (fun _ => ?_)
    · intro y0 y1 y2 y3
      unfold ballcocklaw05_LexNumbers.l0
      repeat' first
      | (with_reducible exact ih0 _ _ _)
      | (with_reducible exact ih1 _ _ _ _)
      | (with_reducible exact ih2 _ _ _ _ _ _)
      | (with_reducible exact LeO.refl _)
      | (with_reducible exact LeO.none _)
      | (with_reducible refine LeO.ite ?_ ?_)
      | (with_reducible refine LeO.bind ?_ (fun _ => ?_))
      | exact ih0 _ _ _
      | exact ih1 _ _ _ _
      | exact ih2 _ _ _ _ _ _
      | exact LeO.none _
      | refine LeO.ite ?_ ?_
      | refine LeO.bind ?_ (fun _ => ?_)
    · intro y0 y1 y2 y3 y4 y5
      unfold ballcocklaw05_LexNumbers.j2
      repeat' first
      | (with_reducible exact ih0 _ _ _)
      | (with_reducible exact ih1 _ _ _ _)
      | (with_reducible exact ih2 _ _ _ _ _ _)
      | (with_reducible exact LeO.refl _)
      | (with_reducible exact LeO.none _)
      | (with_reducible refine LeO.ite ?_ ?_)
      | (with_reducible refine LeO.bind ?_ (fun _ => ?_))
      | exact ih0 _ _ _
      | exact ih1 _ _ _ _
      | exact ih2 _ _ _ _ _ _
      | exact LeO.none _
      | refine LeO.ite ?_ ?_
      | refine LeO.bind ?_ (fun _ => ?_)
theorem ballcocklaw05_LexNumbers.mono : ∀ a0 a1 k, LeO (ballcocklaw05_LexNumbers.f k a0 a1) (ballcocklaw05_LexNumbers.f (k + 1) a0 a1) := by
  intro a0 a1 k
  obtain ⟨ih0, ih1, ih2⟩ := ballcocklaw05_LexNumbers.mono_l k
  unfold ballcocklaw05_LexNumbers.f
  repeat' first
      | (with_reducible exact ih0 _ _ _)
      | (with_reducible exact ih1 _ _ _ _)
      | (with_reducible exact ih2 _ _ _ _ _ _)
      | (with_reducible exact LeO.refl _)
      | (with_reducible exact LeO.none _)
      | (with_reducible refine LeO.ite ?_ ?_)
      | (with_reducible refine LeO.bind ?_ (fun _ => ?_))
      | exact ih0 _ _ _
      | exact ih1 _ _ _ _
      | exact ih2 _ _ _ _ _ _
      | exact LeO.none _
      | refine LeO.ite ?_ ?_
      | refine LeO.bind ?_ (fun _ => ?_)
set_option maxHeartbeats 8000000 in
set_option maxRecDepth 100000 in
theorem ballcocklaw05_LexNumbers.calls (k : Nat) (a0 : Int) (a1 : Bool) (r : Bool) (w : World) (hr_ : r = true) (h : ballcocklaw05_LexNumbers.f k a0 a1 = some r) :
    Calls Tryd.prog 9 #[.int .u8 a0, .bool a1] w fun e w' => e = .returned (.bool r) ∧ Below w.heap.size w w' := by
  have hu26 := Tryd.underlying26
  have HB := Aside0.mk (Below.refl w.heap.size w)
  have H : ((ballcocklaw05_awake.f).bind fun t252 => (if t252 = true then (if a1 = true then (ballcocklaw05_LexNumbers.j0 k a1 (wrap64 (1 + (Int.tmod (wrap64 (a0)) 30))) (⟨#[110]⟩ : ByteArray)) else (ballcocklaw05_LexNumbers.j0 k a1 (wrap64 (1 + (Int.tmod (wrap64 (a0)) 30))) (⟨#[]⟩ : ByteArray))) else (some false))) = some r := h
  clear h
  replace H := Option.bind_eq_some_iff.mp H
  obtain ⟨t252, A30, H⟩ := H
  replace H : (if t252 = true then (if a1 = true then (ballcocklaw05_LexNumbers.j0 k a1 (wrap64 (1 + (Int.tmod (wrap64 (a0)) 30))) (⟨#[110]⟩ : ByteArray)) else (ballcocklaw05_LexNumbers.j0 k a1 (wrap64 (1 + (Int.tmod (wrap64 (a0)) 30))) (⟨#[]⟩ : ByteArray))) else (some false)) = some r := H
  have A3 := Aside0.mk A30
  clear A30
  by_cases c4 : t252 = true
  · subst c4
    have H1 : (if a1 = true then (ballcocklaw05_LexNumbers.j0 k a1 (wrap64 (1 + (Int.tmod (wrap64 (a0)) 30))) (⟨#[110]⟩ : ByteArray)) else (ballcocklaw05_LexNumbers.j0 k a1 (wrap64 (1 + (Int.tmod (wrap64 (a0)) 30))) (⟨#[]⟩ : ByteArray))) = some r := by rw [if_pos rfl] at H; exact H
    clear H
    have H := H1
    clear H1
    have HC5 := Aside0.mk H
    clear H
    go_enter Tryd.func9, Tryd.ntmps9
    go_upto_if 16 with (first | ((with_reducible refine gate_callee (f := 13) rfl ?_); refine goesL_ (some 10) rfl rfl Tryd.func13 (by kernel_rfl) rfl #[] rfl (by (try simp only [List.map_toArray, List.map_cons, List.map_nil]); first | done | rfl | (simp only [List.length_drop, List.length_take]; rfl)) ?_; (with_reducible refine (ballcocklaw05_awake.calls  true _ A3.out).mono ?_); rintro e w6 ⟨rfl, hb⟩; refine ⟨_, rfl, ?_⟩; have n0_ := Aside0.mk (below_step (by repeat (first | (with_reducible first | exact HB.out | apply below_alloc | apply pw_below_drewN | apply below_drew1) | exact HB.out)) hb); clear HB; have HB := n0_; clear n0_; (try clear hb); (try clear hb2); (try clear hk); (try clear hi)))
    (try simp only [Act.put, List.setIfInBounds_toArray, List.set_cons_zero, List.set_cons_succ])
    go_cut [6] (fun v6 wc => ∃ (kq : Nat) (x6_4 : ByteArray), v6 = .string x6_4 ∧ Aside0 (ballcocklaw05_LexNumbers.j0 kq a1 (wrap64 (1 + (Int.tmod (wrap64 (a0)) 30))) x6_4 = some r) ∧ Aside0 (kq ≤ k) ∧ Aside0 (Below w.heap.size w wc))
    case first =>
      have H := HC5.out
      clear HC5
      by_cases c7 : a1 = true
      · subst c7
        have H1 : (ballcocklaw05_LexNumbers.j0 k true (wrap64 (1 + (Int.tmod (wrap64 (a0)) 30))) (⟨#[110]⟩ : ByteArray)) = some r := by rw [if_pos rfl] at H; exact H
        clear H
        have H := H1
        clear H1
        have H' := Aside0.mk H
        clear H
        go_wp2
        go_meet
        case rel => exact ⟨_, ((⟨#[110]⟩ : ByteArray)), (by first | rfl | (simp; done) | (simp [*]; done)), H', ⟨by first | omega | exact Nat.le_refl _⟩, ⟨by repeat (first | (with_reducible first | exact HB.out | apply below_alloc | apply pw_below_drewN | apply below_drew1) | exact HB.out)⟩⟩
      · replace c7 := Bool.eq_false_iff.mpr c7
        subst c7
        have H1 : (ballcocklaw05_LexNumbers.j0 k false (wrap64 (1 + (Int.tmod (wrap64 (a0)) 30))) (⟨#[]⟩ : ByteArray)) = some r := by rw [if_neg (show ¬ (false = true) by decide)] at H; exact H
        clear H
        have H := H1
        clear H1
        have H' := Aside0.mk H
        clear H
        go_wp2
        go_meet
        case rel => exact ⟨_, ((⟨#[]⟩ : ByteArray)), (by first | rfl | (simp; done) | (simp [*]; done)), H', ⟨by first | omega | exact Nat.le_refl _⟩, ⟨by repeat (first | (with_reducible first | exact HB.out | apply below_alloc | apply pw_below_drewN | apply below_drew1) | exact HB.out)⟩⟩
    case rest =>
      clear HC5
      try clear c1
      try clear p2
      try clear c4
      try clear p6
      try clear c7
      obtain ⟨kq, x6_4, rfl, HA, HJ4, HB⟩ := hcut
      cases kq with
      | zero => exact absurd HA.out (by simp [ballcocklaw05_LexNumbers.j0])
      | succ kj4 =>
        have H := HA.out
        clear HA
        simp only [ballcocklaw05_LexNumbers.j0] at H
        have H' := Aside0.mk H
        clear H
        go_wp2
        go_loopg [6, 7] kj4 (fun kq v6 v7 w' => ∃ (x6_2 : ByteArray) (x7_2 : Int), v6 = .string x6_2 ∧ v7 = .int .i64 x7_2 ∧ Aside0 (ballcocklaw05_LexNumbers.l0 kq a1 (wrap64 (1 + (Int.tmod (wrap64 (a0)) 30))) x6_2 x7_2 = some r) ∧ Aside0 (kq ≤ kj4) ∧ Aside0 (Below w.heap.size w w'))
        case atStart => exact ⟨(x6_4), (0), (by first | rfl | (simp; done) | (simp [*]; done)), (by first | rfl | (simp; done) | (simp [*]; done)), H', ⟨Nat.le_refl _⟩, ⟨by repeat (first | (with_reducible first | exact HB.out | apply below_alloc | apply pw_below_drewN | apply below_drew1) | exact HB.out)⟩⟩
        case round =>
          clear H'
          try clear c1
          try clear p2
          try clear c4
          try clear p6
          try clear c7
          try clear p2
          try clear p6
          obtain ⟨x6_2, x7_2, rfl, rfl, HA, HK2, HB⟩ := hrel
          cases gk with
          | zero => exact absurd HA.out (by simp [ballcocklaw05_LexNumbers.l0])
          | succ k2 =>
            have H := HA.out
            clear HA
            simp only [ballcocklaw05_LexNumbers.l0] at H
            by_cases c8 : x7_2 < (wrap64 (1 + (Int.tmod (wrap64 (a0)) 30)))
            · rw [if_pos c8] at H
              have c8b0 : decide (x7_2 < (wrap64 (1 + (Int.tmod (wrap64 (a0)) 30)))) = true := decide_eq_true c8
              clear c8
              by_cases c9 : x6_2.size + 1 ≤ 9223372036854775807
              · rw [if_pos c9] at H
                have c9b0 := eq_true c9
                have c9b1 : decide (x6_2.size + 1 ≤ 9223372036854775807) = true := decide_eq_true c9
                try have c9b2 : (9223372036854775807 < x6_2.size + 1) = False := eq_false (Nat.not_lt.2 c9)
                have H' := Aside0.mk H
                clear H
                go_wp2
                go_roundg k2
                case measure => have := HJ4.out; have := HK2.out; omega
                case rel => exact ⟨(x6_2 ++ (⟨#[55]⟩ : ByteArray)), (wrap64 (x7_2 + 1)), (by first | rfl | (simp; done) | (simp [*]; done)), (by first | rfl | (simp; done) | (simp [*]; done)), H', ⟨by have := HJ4.out; have := HK2.out; omega⟩, ⟨by repeat (first | (with_reducible first | exact HB.out | apply below_alloc | apply pw_below_drewN | apply below_drew1) | exact HB.out)⟩⟩
              · rw [if_neg c9] at H
                exact absurd H (by simp)
            · rw [if_neg c8] at H
              have c8b0 : decide (x7_2 < (wrap64 (1 + (Int.tmod (wrap64 (a0)) 30)))) = false := decide_eq_false c8
              clear c8
              replace H := Option.bind_eq_some_iff.mp H
              obtain ⟨⟨t253, t256, t257⟩, A100, H⟩ := H
              replace H : (if a1 = true then (ballcocklaw05_LexNumbers.j2 k2 a1 x6_2 t253 false t256 t257) else (ballcocklaw05_LexNumbers.j2 k2 a1 x6_2 t253 (decide ((wrap64 (1 + (Int.tmod (wrap64 (a0)) 30))) > 18)) t256 t257)) = some r := H
              have A10 := Aside0.mk A100
              clear A100
              have HC11 := Aside0.mk H
              clear H
              go_upto_region 12 with (first | ((with_reducible refine gate_callee (f := 14) rfl ?_); refine goesL_ (some 26) rfl rfl Tryd.func14 (by kernel_rfl) rfl #[.string x6_2] rfl (by (try simp only [List.map_toArray, List.map_cons, List.map_nil]); first | done | rfl | (simp only [List.length_drop, List.length_take]; rfl)) ?_; (with_reducible refine (lex_Tokens.calls x6_2 t253 t256 t257 _ A10.out).mono ?_); rintro e w12 ⟨v254, rfl, ho0, hb⟩; refine ⟨_, rfl, ?_⟩; have n0_ := Aside0.mk (Kd.R_lower ho0 (below_size (by repeat (first | (with_reducible first | exact HB.out | apply below_alloc | apply pw_below_drewN | apply below_drew1) | exact HB.out)))); have n1_ := Aside0.mk (below_step (by repeat (first | (with_reducible first | exact HB.out | apply below_alloc | apply pw_below_drewN | apply below_drew1) | exact HB.out)) hb); clear HB; have HO255 := n0_; have HB := n1_; clear n0_ n1_; (try clear hb); (try clear hb2); (try clear hk); (try clear hi); (try clear ho0)) | ((with_reducible refine gate_dst (N := 9) rfl ?_); (try (refine gate_guard (by rfl) ?_; dsimp only)); refine box_event ?hg (N := 9) ?hd (cs := #[.int .i64 0, .int .i64 0]) (t := 26) ?hr ?_; (case hd => rfl); (case hg => rfl); (case hr => first | (go_simp; done) | (go_simp; rfl)); intro gb258 hg w13 hbox hb; have n0_ := Aside0.mk (Kd.R_below (by (with_reducible repeat (first | apply Kd.R_alloc | apply Kd.R_drewN | apply Kd.R_drew)); exact HO255.out) hb); have n1_ := Aside0.mk (below_step (by repeat (first | (with_reducible first | exact HB.out | apply below_alloc | apply pw_below_drewN | apply below_drew1) | exact HB.out)) hb); have n2_ := Aside0.mk (hbox); have n3_ := Aside0.mk ((by rw [hg]; exact (below_size (by repeat (first | (with_reducible first | exact HB.out | apply below_alloc | apply pw_below_drewN | apply below_drew1) | exact HB.out))) : w.heap.size ≤ gb258)); have n4_ := Aside0.mk ((by rw [hg]; exact (below_size (by repeat (first | (with_reducible first | exact HB.out | apply below_alloc | apply pw_below_drewN | apply below_drew1) | exact HB.out))) : w.heap.size ≤ gb258)); clear HO255; clear HB; have HO255 := n0_; have HB := n1_; have BK258 := n2_; have GW258 := n3_; have GE258 := n4_; clear n0_ n1_ n2_ n3_ n4_; clear hb hbox hg; have hcz14_0 : w13.cell? ⟨gb258, 0, none⟩ = some (.int .i64 0) := (blk_cell BK258.out 0).trans rfl; have hcz14_1 : w13.cell? ⟨gb258, 1, none⟩ = some (.int .i64 0) := (blk_cell BK258.out 1).trans rfl; have hfz14_0 := blk_frozen BK258.out 0; have hfz14_1 := blk_frozen BK258.out 1))
              (try simp only [Act.put, List.setIfInBounds_toArray, List.set_cons_zero, List.set_cons_succ])
              go_cut [34] (fun v34 wc => ∃ (kq : Nat) (x34_10 : Bool), v34 = .bool x34_10 ∧ Aside0 (ballcocklaw05_LexNumbers.j2 kq a1 x6_2 t253 x34_10 t256 t257 = some r) ∧ Aside0 (kq ≤ k2) ∧ Aside0 (Kd.R k32 32 wc w.heap.size (fun _ => True) v254 t253) ∧ Aside0 (wc.heap[gb258]? = some (.cells #[.int .i64 t256, .int .i64 t257] 26 (0, 0))) ∧ Aside0 (Below w.heap.size w wc))
              case first =>
                have H := HC11.out
                clear HC11
                by_cases c15 : a1 = true
                · subst c15
                  have H1 : (ballcocklaw05_LexNumbers.j2 k2 true x6_2 t253 false t256 t257) = some r := by rw [if_pos rfl] at H; exact H
                  clear H
                  have H := H1
                  clear H1
                  have H' := Aside0.mk H
                  clear H
                  go_wp2
                  go_meet
                  case rel => exact ⟨_, (false), (by first | rfl | (simp; done) | (simp [*]; done)), H', ⟨by have := HJ4.out; have := HK2.out; first | omega | exact Nat.le_refl _⟩, ⟨by (with_reducible repeat (first | apply Kd.R_alloc | apply Kd.R_drewN | apply Kd.R_drew)); exact Kd.R_mono (Kd.R_far (p := ⟨gb258, 1, none⟩) (Kd.R_far (p := ⟨gb258, 0, none⟩) (Kd.R_types HO255.out BK258.out (by decide)) (fun _ hk => hk.2) (.int .i64 t256)) (fun _ hk => hk.2) (.int .i64 t257)) (fun _ hk => trivial)⟩, ⟨by (with_reducible repeat (first | refine blk_drewN ?_ _ | refine blk_drew ?_ | refine blk_alloc ?_ _)); refine blk_put (cs := #[.int .i64 t256, .int .i64 0]) ?_ 1 _ rfl; (with_reducible repeat (first | refine blk_drewN ?_ _ | refine blk_drew ?_ | refine blk_alloc ?_ _)); refine blk_put (cs := #[.int .i64 0, .int .i64 0]) ?_ 0 _ rfl; (with_reducible repeat (first | refine blk_drewN ?_ _ | refine blk_drew ?_ | refine blk_alloc ?_ _)); exact BK258.out⟩, ⟨by repeat (first | (with_reducible first | exact HB.out | apply below_alloc | apply pw_below_drewN | apply below_drew1 | refine below_set ?_ GE258.out) | exact HB.out)⟩⟩
                · replace c15 := Bool.eq_false_iff.mpr c15
                  subst c15
                  have H1 : (ballcocklaw05_LexNumbers.j2 k2 false x6_2 t253 (decide ((wrap64 (1 + (Int.tmod (wrap64 (a0)) 30))) > 18)) t256 t257) = some r := by rw [if_neg (show ¬ (false = true) by decide)] at H; exact H
                  clear H
                  have H := H1
                  clear H1
                  have H' := Aside0.mk H
                  clear H
                  go_wp2
                  go_meet
                  case rel => exact ⟨_, (decide ((wrap64 (1 + (Int.tmod (wrap64 (a0)) 30))) > 18)), (by first | rfl | (simp; done) | (simp [*]; done)), H', ⟨by have := HJ4.out; have := HK2.out; first | omega | exact Nat.le_refl _⟩, ⟨by (with_reducible repeat (first | apply Kd.R_alloc | apply Kd.R_drewN | apply Kd.R_drew)); exact Kd.R_mono (Kd.R_far (p := ⟨gb258, 1, none⟩) (Kd.R_far (p := ⟨gb258, 0, none⟩) (Kd.R_types HO255.out BK258.out (by decide)) (fun _ hk => hk.2) (.int .i64 t256)) (fun _ hk => hk.2) (.int .i64 t257)) (fun _ hk => trivial)⟩, ⟨by (with_reducible repeat (first | refine blk_drewN ?_ _ | refine blk_drew ?_ | refine blk_alloc ?_ _)); refine blk_put (cs := #[.int .i64 t256, .int .i64 0]) ?_ 1 _ rfl; (with_reducible repeat (first | refine blk_drewN ?_ _ | refine blk_drew ?_ | refine blk_alloc ?_ _)); refine blk_put (cs := #[.int .i64 0, .int .i64 0]) ?_ 0 _ rfl; (with_reducible repeat (first | refine blk_drewN ?_ _ | refine blk_drew ?_ | refine blk_alloc ?_ _)); exact BK258.out⟩, ⟨by repeat (first | (with_reducible first | exact HB.out | apply below_alloc | apply pw_below_drewN | apply below_drew1 | refine below_set ?_ GE258.out) | exact HB.out)⟩⟩
              case rest =>
                clear HC11
                try clear c1
                try clear p2
                try clear c4
                try clear p6
                try clear c7
                try clear c8
                try clear c8b0
                try clear c9
                try clear c9b0
                try clear c9b1
                try clear c9b2
                try clear c13
                try clear c14
                try clear c15
                try clear hcz14_0
                try clear hcz14_1
                try clear hfz14_0
                try clear hfz14_1
                try clear p2
                try clear p6
                obtain ⟨kq, x34_10, rfl, HA, HJ10, HO_8, BK258, HB⟩ := hcut
                cases kq with
                | zero => exact absurd HA.out (by simp [ballcocklaw05_LexNumbers.j2])
                | succ kj10 =>
                  have H := HA.out
                  clear HA
                  simp only [ballcocklaw05_LexNumbers.j2] at H
                  by_cases c16 : x34_10 = true
                  · subst c16
                    have H1 : (if (t256 == 10 && (t257 == 0)) = true then (some ((t253.length : Int) == 0)) else (some false)) = some r := by rw [if_pos rfl] at H; exact H
                    clear H
                    have H := H1
                    clear H1
                    by_cases c17 : (t256 == 10 && (t257 == 0)) = true
                    · rw [if_pos c17] at H
                      have c17b0 : (t256 == 10 && (t257 == 0)) = true := c17
                      (try (have c17b1 : decide (t256 = 10 && (t257 == 0)) = true := by simpa using c17))
                      (try (have c17b2 : (t256 == 10 && (t257 == 0)) = true := by simpa using c17))
                      clear c17
                      obtain rfl := Option.some.inj H
                      have hcz18_0 : wc.cell? ⟨gb258, 0, none⟩ = some (.int .i64 t256) := (blk_cell BK258.out 0).trans rfl
                      have hcz18_1 : wc.cell? ⟨gb258, 1, none⟩ = some (.int .i64 t257) := (blk_cell BK258.out 1).trans rfl
                      have hfz18_0 := blk_frozen BK258.out 0
                      have hfz18_1 := blk_frozen BK258.out 1
                      obtain ⟨Ao19, co19, eo19⟩ := Kd.R_slice HO_8.out
                      subst eo19
                      go_wp2
                      go_ret
                      exact ⟨by first | rfl | (simp [errW_none, errW_some] <;> rfl) | (simp [*, errW_none, errW_some] <;> rfl), by repeat (first | (with_reducible first | exact HB.out | apply below_alloc | apply pw_below_drewN | apply below_drew1 | refine below_set ?_ GE258.out) | exact HB.out)⟩
                    · rw [if_neg c17] at H
                      have c17b0 : (t256 == 10 && (t257 == 0)) = false := by simpa using c17
                      (try (have c17b1 : decide (t256 = 10 && (t257 == 0)) = false := by simpa using c17))
                      (try (have c17b2 : (t256 == 10 && (t257 == 0)) = false := by simpa using c17))
                      (try (have c17b3 : ¬ (t256 = 10 && (t257 == 0)) := by simpa using c17))
                      clear c17
                      subst hr_
                      exact absurd H (by simp)
                  · replace c16 := Bool.eq_false_iff.mpr c16
                    subst c16
                    have H1 : (if (t256 == 0 && (t257 == 0)) = true then (if (t253.length : Int) = 2 then (if 0 < (t253.length : Int) then (if ((rd_T32 t253 0).f1).toList = x6_2.toList then (if ((((rd_T32 t253 0).f0) == 1) == (!a1)) = true then ((lex_Name.f x6_2).bind fun t261 => (if a1 = true then (some (t261 == (decide ((x6_2.size : Int) ≤ 16)))) else (some (t261 == false)))) else (some false)) else (some false)) else (none)) else (some false)) else (some false)) = some r := by rw [if_neg (show ¬ (false = true) by decide)] at H; exact H
                    clear H
                    have H := H1
                    clear H1
                    by_cases c20 : (t256 == 0 && (t257 == 0)) = true
                    · rw [if_pos c20] at H
                      have c20b0 : (t256 == 0 && (t257 == 0)) = true := c20
                      (try (have c20b1 : decide (t256 = 0 && (t257 == 0)) = true := by simpa using c20))
                      (try (have c20b2 : (t256 == 0 && (t257 == 0)) = true := by simpa using c20))
                      clear c20
                      by_cases c21 : (t253.length : Int) = 2
                      · rw [if_pos c21] at H
                        have c21b0 : ((t253.length : Int) == 2) = true := beq_iff_eq.mpr c21
                        have c21b1 : ((t253.length : Int) != 2) = false := bne_eq_false_iff_eq.mpr c21
                        clear c21
                        by_cases c22 : 0 < (t253.length : Int)
                        · rw [if_pos c22] at H
                          have c22b0 : decide (0 < (t253.length : Int)) = true := decide_eq_true c22
                          have c22b1 : decide (0 < t253.length) = true := decide_eq_true (by omega)
                          clear c22
                          by_cases c23 : ((rd_T32 t253 0).f1).toList = x6_2.toList
                          · rw [if_pos c23] at H
                            have c23b0 : (((rd_T32 t253 0).f1).toList == x6_2.toList) = true := beq_iff_eq.mpr c23
                            have c23b1 : (((rd_T32 t253 0).f1).toList != x6_2.toList) = false := bne_eq_false_iff_eq.mpr c23
                            clear c23
                            by_cases c24 : ((((rd_T32 t253 0).f0) == 1) == (!a1)) = true
                            · rw [if_pos c24] at H
                              have c24b0 : ((((rd_T32 t253 0).f0) == 1) == (!a1)) = true := c24
                              (try (have c24b1 : decide ((((rd_T32 t253 0).f0) == 1) = (!a1)) = true := by simpa using c24))
                              (try (have c24b2 : ((((rd_T32 t253 0).f0) == 1) == (!a1)) = true := by simpa using c24))
                              clear c24
                              replace H := Option.bind_eq_some_iff.mp H
                              obtain ⟨t261, A250, H⟩ := H
                              replace H : (if a1 = true then (some (t261 == (decide ((x6_2.size : Int) ≤ 16)))) else (some (t261 == false))) = some r := H
                              have A25 := Aside0.mk A250
                              clear A250
                              by_cases c26 : a1 = true
                              · subst c26
                                have z0_ : (((rd_T32 t253 0).f0) == 1) = false := by simpa using c24b0
                                have z1_ : (((rd_T32 t253 0).f0) != 1) = true := by simpa using c24b0
                                have H1 : (some (t261 == (decide ((x6_2.size : Int) ≤ 16)))) = some r := by rw [if_pos rfl] at H; exact H
                                clear H
                                have H := H1
                                clear H1
                                obtain rfl := Option.some.inj H
                                have hcz27_0 : wc.cell? ⟨gb258, 0, none⟩ = some (.int .i64 t256) := (blk_cell BK258.out 0).trans rfl
                                have hcz27_1 : wc.cell? ⟨gb258, 1, none⟩ = some (.int .i64 t257) := (blk_cell BK258.out 1).trans rfl
                                have hfz27_0 := blk_frozen BK258.out 0
                                have hfz27_1 := blk_frozen BK258.out 1
                                obtain ⟨Ao28, co28, eo28⟩ := Kd.R_slice HO_8.out
                                subst eo28
                                have p259 : 0 ≤ (0 : Int) := (by omega)
                                have q259 : 0 < (t253.length : Int) := of_decide_eq_true (by first | (with_reducible assumption) | assumption)
                                obtain ⟨ad259, e259, hx259_0, hx259_1, hx259_2⟩ := at_T32 (Kd.R_reads' HO_8.out).2.2 0 p259 q259
                                cases e259
                                have qi259 : (0 < t253.length) = True := eq_true (by omega)
                                (try rw [show ((0 : Int)).toNat = 0 from rfl] at hx259_0)
                                (try rw [show 0 * 3 = 0 from rfl] at hx259_0)
                                (try rw [Addr.add_zero'] at hx259_0)
                                (try rw [show ((0 : Int)).toNat = 0 from rfl] at hx259_1)
                                (try rw [show 0 * 3 = 0 from rfl] at hx259_1)
                                (try rw [Addr.add_zero'] at hx259_1)
                                (try rw [show ((0 : Int)).toNat = 0 from rfl] at hx259_2)
                                (try rw [show 0 * 3 = 0 from rfl] at hx259_2)
                                (try rw [Addr.add_zero'] at hx259_2)
                                replace p259 := eq_true p259
                                replace q259 := eq_true q259
                                have p260 : 0 ≤ (0 : Int) := (by omega)
                                have q260 : 0 < (t253.length : Int) := of_decide_eq_true (by first | (with_reducible assumption) | assumption)
                                obtain ⟨ad260, e260, hx260_0, hx260_1, hx260_2⟩ := at_T32 (Kd.R_reads' HO_8.out).2.2 0 p260 q260
                                obtain rfl : ad259 = ad260 := (by injection e260)
                                have qi260 : (0 < t253.length) = True := eq_true (by omega)
                                (try rw [show ((0 : Int)).toNat = 0 from rfl] at hx260_0)
                                (try rw [show 0 * 3 = 0 from rfl] at hx260_0)
                                (try rw [Addr.add_zero'] at hx260_0)
                                (try rw [show ((0 : Int)).toNat = 0 from rfl] at hx260_1)
                                (try rw [show 0 * 3 = 0 from rfl] at hx260_1)
                                (try rw [Addr.add_zero'] at hx260_1)
                                (try rw [show ((0 : Int)).toNat = 0 from rfl] at hx260_2)
                                (try rw [show 0 * 3 = 0 from rfl] at hx260_2)
                                (try rw [Addr.add_zero'] at hx260_2)
                                replace p260 := eq_true p260
                                replace q260 := eq_true q260
                                go_wp2_with (first | (go_at_call 19; (with_reducible refine (lex_Name.calls x6_2 t261 _ A25.out).mono ?_); rintro e w29 ⟨rfl, hb⟩; have n0_ := Aside0.mk (Kd.R_below (by (with_reducible repeat (first | apply Kd.R_alloc | apply Kd.R_drewN | apply Kd.R_drew)); exact HO_8.out) hb); have n1_ := Aside0.mk (blk_below (g := gb258) (o := .cells #[.int .i64 t256, .int .i64 t257] 26 (0, 0)) (by (with_reducible repeat (first | refine blk_drewN ?_ _ | refine blk_drew ?_ | refine blk_alloc ?_ _)); exact BK258.out) hb); have n2_ := Aside0.mk (below_step (by repeat (first | (with_reducible first | exact HB.out | apply below_alloc | apply pw_below_drewN | apply below_drew1 | refine below_set ?_ GE258.out) | exact HB.out)) hb); clear HO_8; clear BK258; clear HB; have HO_8 := n0_; have BK258 := n1_; have HB := n2_; clear n0_ n1_ n2_; (try clear hb); (try clear hb2); (try clear hk); (try clear hi)))
                                go_ret
                                exact ⟨by first | rfl | (simp [errW_none, errW_some] <;> rfl) | (simp [*, errW_none, errW_some] <;> rfl), by repeat (first | (with_reducible first | exact HB.out | apply below_alloc | apply pw_below_drewN | apply below_drew1 | refine below_set ?_ GE258.out) | exact HB.out)⟩
                              · replace c26 := Bool.eq_false_iff.mpr c26
                                subst c26
                                have z0_ : (((rd_T32 t253 0).f0) == 1) = true := by simpa using c24b0
                                have z1_ : (((rd_T32 t253 0).f0) != 1) = false := by simpa using c24b0
                                have H1 : (some (t261 == false)) = some r := by rw [if_neg (show ¬ (false = true) by decide)] at H; exact H
                                clear H
                                have H := H1
                                clear H1
                                obtain rfl := Option.some.inj H
                                have hcz30_0 : wc.cell? ⟨gb258, 0, none⟩ = some (.int .i64 t256) := (blk_cell BK258.out 0).trans rfl
                                have hcz30_1 : wc.cell? ⟨gb258, 1, none⟩ = some (.int .i64 t257) := (blk_cell BK258.out 1).trans rfl
                                have hfz30_0 := blk_frozen BK258.out 0
                                have hfz30_1 := blk_frozen BK258.out 1
                                obtain ⟨Ao31, co31, eo31⟩ := Kd.R_slice HO_8.out
                                subst eo31
                                have p259 : 0 ≤ (0 : Int) := (by omega)
                                have q259 : 0 < (t253.length : Int) := of_decide_eq_true (by first | (with_reducible assumption) | assumption)
                                obtain ⟨ad259, e259, hx259_0, hx259_1, hx259_2⟩ := at_T32 (Kd.R_reads' HO_8.out).2.2 0 p259 q259
                                cases e259
                                have qi259 : (0 < t253.length) = True := eq_true (by omega)
                                (try rw [show ((0 : Int)).toNat = 0 from rfl] at hx259_0)
                                (try rw [show 0 * 3 = 0 from rfl] at hx259_0)
                                (try rw [Addr.add_zero'] at hx259_0)
                                (try rw [show ((0 : Int)).toNat = 0 from rfl] at hx259_1)
                                (try rw [show 0 * 3 = 0 from rfl] at hx259_1)
                                (try rw [Addr.add_zero'] at hx259_1)
                                (try rw [show ((0 : Int)).toNat = 0 from rfl] at hx259_2)
                                (try rw [show 0 * 3 = 0 from rfl] at hx259_2)
                                (try rw [Addr.add_zero'] at hx259_2)
                                replace p259 := eq_true p259
                                replace q259 := eq_true q259
                                have p260 : 0 ≤ (0 : Int) := (by omega)
                                have q260 : 0 < (t253.length : Int) := of_decide_eq_true (by first | (with_reducible assumption) | assumption)
                                obtain ⟨ad260, e260, hx260_0, hx260_1, hx260_2⟩ := at_T32 (Kd.R_reads' HO_8.out).2.2 0 p260 q260
                                obtain rfl : ad259 = ad260 := (by injection e260)
                                have qi260 : (0 < t253.length) = True := eq_true (by omega)
                                (try rw [show ((0 : Int)).toNat = 0 from rfl] at hx260_0)
                                (try rw [show 0 * 3 = 0 from rfl] at hx260_0)
                                (try rw [Addr.add_zero'] at hx260_0)
                                (try rw [show ((0 : Int)).toNat = 0 from rfl] at hx260_1)
                                (try rw [show 0 * 3 = 0 from rfl] at hx260_1)
                                (try rw [Addr.add_zero'] at hx260_1)
                                (try rw [show ((0 : Int)).toNat = 0 from rfl] at hx260_2)
                                (try rw [show 0 * 3 = 0 from rfl] at hx260_2)
                                (try rw [Addr.add_zero'] at hx260_2)
                                replace p260 := eq_true p260
                                replace q260 := eq_true q260
                                go_wp2_with (first | (go_at_call 19; (with_reducible refine (lex_Name.calls x6_2 t261 _ A25.out).mono ?_); rintro e w32 ⟨rfl, hb⟩; have n0_ := Aside0.mk (Kd.R_below (by (with_reducible repeat (first | apply Kd.R_alloc | apply Kd.R_drewN | apply Kd.R_drew)); exact HO_8.out) hb); have n1_ := Aside0.mk (blk_below (g := gb258) (o := .cells #[.int .i64 t256, .int .i64 t257] 26 (0, 0)) (by (with_reducible repeat (first | refine blk_drewN ?_ _ | refine blk_drew ?_ | refine blk_alloc ?_ _)); exact BK258.out) hb); have n2_ := Aside0.mk (below_step (by repeat (first | (with_reducible first | exact HB.out | apply below_alloc | apply pw_below_drewN | apply below_drew1 | refine below_set ?_ GE258.out) | exact HB.out)) hb); clear HO_8; clear BK258; clear HB; have HO_8 := n0_; have BK258 := n1_; have HB := n2_; clear n0_ n1_ n2_; (try clear hb); (try clear hb2); (try clear hk); (try clear hi)))
                                go_ret
                                exact ⟨by first | rfl | (simp [errW_none, errW_some] <;> rfl) | (simp [*, errW_none, errW_some] <;> rfl), by repeat (first | (with_reducible first | exact HB.out | apply below_alloc | apply pw_below_drewN | apply below_drew1 | refine below_set ?_ GE258.out) | exact HB.out)⟩
                            · rw [if_neg c24] at H
                              have c24b0 : ((((rd_T32 t253 0).f0) == 1) == (!a1)) = false := by simpa using c24
                              (try (have c24b1 : decide ((((rd_T32 t253 0).f0) == 1) = (!a1)) = false := by simpa using c24))
                              (try (have c24b2 : ((((rd_T32 t253 0).f0) == 1) == (!a1)) = false := by simpa using c24))
                              (try (have c24b3 : ¬ ((((rd_T32 t253 0).f0) == 1) = (!a1)) := by simpa using c24))
                              clear c24
                              subst hr_
                              exact absurd H (by simp)
                          · rw [if_neg c23] at H
                            have c23b0 : (((rd_T32 t253 0).f1).toList == x6_2.toList) = false := beq_eq_false_iff_ne.mpr c23
                            have c23b1 : (((rd_T32 t253 0).f1).toList != x6_2.toList) = true := bne_iff_ne.mpr c23
                            subst hr_
                            exact absurd H (by simp)
                        · rw [if_neg c22] at H
                          exact absurd H (by simp)
                      · rw [if_neg c21] at H
                        have c21b0 : ((t253.length : Int) == 2) = false := beq_eq_false_iff_ne.mpr c21
                        have c21b1 : ((t253.length : Int) != 2) = true := bne_iff_ne.mpr c21
                        subst hr_
                        exact absurd H (by simp)
                    · rw [if_neg c20] at H
                      have c20b0 : (t256 == 0 && (t257 == 0)) = false := by simpa using c20
                      (try (have c20b1 : decide (t256 = 0 && (t257 == 0)) = false := by simpa using c20))
                      (try (have c20b2 : (t256 == 0 && (t257 == 0)) = false := by simpa using c20))
                      (try (have c20b3 : ¬ (t256 = 0 && (t257 == 0)) := by simpa using c20))
                      clear c20
                      subst hr_
                      exact absurd H (by simp)
  · replace c4 := Bool.eq_false_iff.mpr c4
    subst c4
    have H1 : (some false) = some r := by rw [if_neg (show ¬ (false = true) by decide)] at H; exact H
    clear H
    have H := H1
    clear H1
    subst hr_
    exact absurd H (by simp)

/-- THE ONE PURE STATEMENT of ballcocklaw05_LexNumbers: yours. -/
def ballcocklaw05_LexNumbers.Pure : Prop := ∀ (a0 : Int) (a1 : Bool), (Lit.int .u8 a0).wf = true → ∃ k, ballcocklaw05_LexNumbers.f k a0 a1 = some true
theorem ballcocklaw05_LexNumbers.walk (P : ballcocklaw05_LexNumbers.Pure) (a0 : Int) (a1 : Bool) (w : World) (w0 : (Lit.int .u8 a0).wf = true) :
    Calls Tryd.prog 9 #[.int .u8 a0, .bool a1] w fun e w' => e = .returned (.bool true) ∧ Below w.heap.size w w' := by
  obtain ⟨k, h⟩ := P a0 a1 w0
  refine (ballcocklaw05_LexNumbers.calls k a0 a1 true w rfl h).mono ?_
  rintro e w' ⟨rfl, hd⟩
  exact ⟨rfl, hd⟩

end Go.Proofs.YtifjmokilbijlaaDoor.PLex
