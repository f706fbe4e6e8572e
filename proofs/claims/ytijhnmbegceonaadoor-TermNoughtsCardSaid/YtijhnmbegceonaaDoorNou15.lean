-- Words and walks printed by the kit and by programs of this session, and texts by hand, cut to what this law uses (wip/pack.py).
import Derived.Test.YtijhnmbegceonaaDoorNou14
namespace Go.Proofs.YtijhnmbegceonaaDoor.PTerm
open Go.RowKit Go.Proofs.YtijhnmbegceonaaDoorW.PrintWords Go.Proofs.YtijhnmbegceonaaDoorW.PrintLast Go.Proofs.YtijhnmbegceonaaDoorW.PrintMore
attribute [local go_sem] max2_int min2_int max_two min_two max_three min_three max_four min_four
set_option linter.unusedVariables false
set_option linter.unusedSimpArgs false
attribute [local go_sem] rat_Right.fld0
attribute [local go_sem high] eqA24
def term_Same.f (k : Nat) (l0_0 : List (S24)) (a0_1 : Int) (a0_2 : Int) (l1_0 : List (S24)) (a1_1 : Int) (a1_2 : Int) : Option (Bool) := (term_Right.f l0_0 a0_1 a0_2).bind fun t155 => (if t155 = true then ((term_Right.f l1_0 a1_1 a1_2).bind fun t156 => (if t156 = true then (if (a0_1 == a1_1 && (a0_2 == a1_2)) = true then ((term_trim.f k l0_0 a0_1 a0_2).bind fun bt157 => ((term_trim.f k l1_0 a1_1 a1_2).bind fun bt162 => ((api_Rat_34.f k bt157.1 bt162.1).bind fun t167 => (some t167)))) else (some false)) else (some false))) else (some false))
def term_Same.T1 : Bool × List (List Nat × List Nat) := (true, [([], []), ([0], [0]), ([1, 1], [1]), ([2], [2]), ([3, 2, 2], [2, 3]), ([2, 4], [2, 4]), ([5, 4], [5]), ([6], [6]), ([7, 6], [6, 7]), ([6], [6]), ([9, 6], [6, 9]), ([8, 10, 6], [6, 8, 10]), ([6, 11], [6, 11]), ([12, 6], [12]), ([13], [13]), ([14, 13, 13], [13, 14]), ([15, 13], [13, 15]), ([13], [13]), ([17, 15, 13], [13, 17]), ([18, 13], [13, 18]), ([16, 19, 18, 13], [13, 16, 19]), ([13, 20], [13, 20]), ([21, 20, 0, 1, 2, 3, 4, 5, 6, 7, 8, 9, 10, 11, 12, 13, 14, 15, 16, 17, 18, 19, 20, 21], [21])])
def term_Same.B1 : List Nat := [0, 1, 3, 7, 15, 31, 63, 127, 255, 127, 639, 2047, 4095, 8191, 16383, 32767, 65535, 16383, 196607, 458751, 1048575, 2097151, 4194303]
theorem term_Same.tab1 : rtab .any (opsOf Tryd.f16 1) = term_Same.T1 := by kernel_rfl
theorem term_Same.bits1 : waitsOk term_Same.T1.2 term_Same.B1 = true := by kernel_rfl
set_option maxHeartbeats 8000000 in
set_option maxRecDepth 100000 in
theorem term_Same.calls (k : Nat) (A0_0 : Option Addr) (c0_0 : Nat) (l0_0 : List (S24)) (a0_1 : Int) (a0_2 : Int) (A1_0 : Option Addr) (c1_0 : Nat) (l1_0 : List (S24)) (a1_1 : Int) (a1_2 : Int) (r : Bool) (w : World) (hr0_0 : Kd.C k24 w A0_0 l0_0.length l0_0) (hc0_0 : l0_0.length ≤ c0_0) (hr1_0 : Kd.C k24 w A1_0 l1_0.length l1_0) (hc1_0 : l1_0.length ≤ c1_0) (h : term_Same.f k l0_0 a0_1 a0_2 l1_0 a1_1 a1_2 = some r) :
    Calls Tryd.prog 16 #[.agg #[.slice A0_0 l0_0.length c0_0, .int .i64 a0_1, .int .i64 a0_2], .agg #[.slice A1_0 l1_0.length c1_0, .int .i64 a1_1, .int .i64 a1_2]] w fun e w' => e = .returned (.bool r) ∧ Below w.heap.size w w' := by
  have hu26 := Tryd.underlying26
  have hu24 := Tryd.underlying24
  have HR0_0 := Aside0.mk hr0_0
  have HC0_0 := Aside0.mk hc0_0
  clear hr0_0 hc0_0
  have HR1_0 := Aside0.mk hr1_0
  have HC1_0 := Aside0.mk hc1_0
  clear hr1_0 hc1_0
  have HB := Aside0.mk (Below.refl w.heap.size w)
  have H : ((term_Right.f l0_0 a0_1 a0_2).bind fun t155 => (if t155 = true then ((term_Right.f l1_0 a1_1 a1_2).bind fun t156 => (if t156 = true then (if (a0_1 == a1_1 && (a0_2 == a1_2)) = true then ((term_trim.f k l0_0 a0_1 a0_2).bind fun bt157 => ((term_trim.f k l1_0 a1_1 a1_2).bind fun bt162 => ((api_Rat_34.f k bt157.1 bt162.1).bind fun t167 => (some t167)))) else (some false)) else (some false))) else (some false))) = some r := h
  clear h
  replace H := Option.bind_eq_some_iff.mp H
  obtain ⟨t155, A30, H⟩ := H
  replace H : (if t155 = true then ((term_Right.f l1_0 a1_1 a1_2).bind fun t156 => (if t156 = true then (if (a0_1 == a1_1 && (a0_2 == a1_2)) = true then ((term_trim.f k l0_0 a0_1 a0_2).bind fun bt157 => ((term_trim.f k l1_0 a1_1 a1_2).bind fun bt162 => ((api_Rat_34.f k bt157.1 bt162.1).bind fun t167 => (some t167)))) else (some false)) else (some false))) else (some false)) = some r := H
  have A3 := Aside0.mk A30
  clear A30
  by_cases c4 : t155 = true
  · subst c4
    have H1 : ((term_Right.f l1_0 a1_1 a1_2).bind fun t156 => (if t156 = true then (if (a0_1 == a1_1 && (a0_2 == a1_2)) = true then ((term_trim.f k l0_0 a0_1 a0_2).bind fun bt157 => ((term_trim.f k l1_0 a1_1 a1_2).bind fun bt162 => ((api_Rat_34.f k bt157.1 bt162.1).bind fun t167 => (some t167)))) else (some false)) else (some false))) = some r := by rw [if_pos rfl] at H; exact H
    clear H
    have H := H1
    clear H1
    replace H := Option.bind_eq_some_iff.mp H
    obtain ⟨t156, A50, H⟩ := H
    replace H : (if t156 = true then (if (a0_1 == a1_1 && (a0_2 == a1_2)) = true then ((term_trim.f k l0_0 a0_1 a0_2).bind fun bt157 => ((term_trim.f k l1_0 a1_1 a1_2).bind fun bt162 => ((api_Rat_34.f k bt157.1 bt162.1).bind fun t167 => (some t167)))) else (some false)) else (some false)) = some r := H
    have A5 := Aside0.mk A50
    clear A50
    by_cases c6 : t156 = true
    · subst c6
      have H1 : (if (a0_1 == a1_1 && (a0_2 == a1_2)) = true then ((term_trim.f k l0_0 a0_1 a0_2).bind fun bt157 => ((term_trim.f k l1_0 a1_1 a1_2).bind fun bt162 => ((api_Rat_34.f k bt157.1 bt162.1).bind fun t167 => (some t167)))) else (some false)) = some r := by rw [if_pos rfl] at H; exact H
      clear H
      have H := H1
      clear H1
      by_cases c7 : (a0_1 == a1_1 && (a0_2 == a1_2)) = true
      · rw [if_pos c7] at H
        have c7b0 : (a0_1 == a1_1 && (a0_2 == a1_2)) = true := c7
        (try (have c7b1 : decide (a0_1 = a1_1 && (a0_2 == a1_2)) = true := by simpa using c7))
        (try (have c7b2 : (a0_1 == a1_1 && (a0_2 == a1_2)) = true := by simpa using c7))
        clear c7
        replace H := Option.bind_eq_some_iff.mp H
        obtain ⟨⟨t157, t160, t161⟩, A80, H⟩ := H
        replace H : ((term_trim.f k l1_0 a1_1 a1_2).bind fun bt162 => ((api_Rat_34.f k t157 bt162.1).bind fun t167 => (some t167))) = some r := H
        have A8 := Aside0.mk A80
        clear A80
        replace H := Option.bind_eq_some_iff.mp H
        obtain ⟨⟨t162, t165, t166⟩, A90, H⟩ := H
        replace H : ((api_Rat_34.f k t157 t162).bind fun t167 => (some t167)) = some r := H
        have A9 := Aside0.mk A90
        clear A90
        replace H := Option.bind_eq_some_iff.mp H
        obtain ⟨t167, A100, H⟩ := H
        replace H : (some t167) = some r := H
        have A10 := Aside0.mk A100
        clear A100
        obtain rfl := Option.some.inj H
        go_enter Tryd.func16, Tryd.ntmps16
        try go_wp2_with (first | ((with_reducible refine gate_dst (N := 2) rfl ?_); refine box_event ?hg (N := 2) ?hd (cs := #[.slice A0_0 l0_0.length c0_0, .int .i64 a0_1, .int .i64 a0_2]) (t := 26) ?hr ?_; (case hd => rfl); (case hg => rfl); (case hr => first | (go_simp; done) | (go_simp; rfl)); intro gb153 hg w11 hbox hb; have n0_ := Aside0.mk (below_step (by repeat (first | (with_reducible first | exact HB.out | apply below_alloc | apply pw_below_drewN | apply below_drew1) | exact HB.out)) hb); have n1_ := Aside0.mk (hbox); have n2_ := Aside0.mk ((by rw [hg]; exact (below_size (by repeat (first | (with_reducible first | exact HB.out | apply below_alloc | apply pw_below_drewN | apply below_drew1) | exact HB.out))) : w.heap.size ≤ gb153)); have n3_ := Aside0.mk ((by rw [hg]; exact (below_size (by repeat (first | (with_reducible first | exact HB.out | apply below_alloc | apply pw_below_drewN | apply below_drew1) | exact HB.out))) : w.heap.size ≤ gb153)); clear HB; have HB := n0_; have BK153 := n1_; have GW153 := n2_; have GE153 := n3_; clear n0_ n1_ n2_ n3_; clear hb hbox hg) | ((with_reducible refine gate_dst (N := 3) rfl ?_); refine box_event ?hg (N := 3) ?hd (cs := #[.slice A1_0 l1_0.length c1_0, .int .i64 a1_1, .int .i64 a1_2]) (t := 26) ?hr ?_; (case hd => rfl); (case hg => rfl); (case hr => first | (go_simp; done) | (go_simp; rfl)); intro gb154 hg w12 hbox hb; have n0_ := Aside0.mk (blk_below (g := gb153) (o := .cells #[.slice A0_0 l0_0.length c0_0, .int .i64 a0_1, .int .i64 a0_2] 26 (0, 0)) (by (with_reducible repeat (first | refine blk_drewN ?_ _ | refine blk_drew ?_ | refine blk_alloc ?_ _)); exact BK153.out) hb); have n1_ := Aside0.mk (below_step (by repeat (first | (with_reducible first | exact HB.out | apply below_alloc | apply pw_below_drewN | apply below_drew1 | refine below_set ?_ GE153.out) | exact HB.out)) hb); have n2_ := Aside0.mk (hbox); have n3_ := Aside0.mk ((by rw [hg]; exact (below_size (by repeat (first | (with_reducible first | exact HB.out | apply below_alloc | apply pw_below_drewN | apply below_drew1 | refine below_set ?_ GE153.out) | exact HB.out))) : w.heap.size ≤ gb154)); have n4_ := Aside0.mk ((by rw [hg]; exact (below_size (by repeat (first | (with_reducible first | exact HB.out | apply below_alloc | apply pw_below_drewN | apply below_drew1 | refine below_set ?_ GE153.out) | exact HB.out))) : w.heap.size ≤ gb154)); have n5_ := Aside0.mk ((by rw [hg]; exact Nat.ne_of_lt (blk_lt (g := gb153) (o := .cells #[.slice A0_0 l0_0.length c0_0, .int .i64 a0_1, .int .i64 a0_2] 26 (0, 0)) (by (with_reducible repeat (first | refine blk_drewN ?_ _ | refine blk_drew ?_ | refine blk_alloc ?_ _)); exact BK153.out)) : gb153 ≠ gb154)); have n6_ := Aside0.mk ((by rw [hg]; exact Nat.ne_of_gt (blk_lt (g := gb153) (o := .cells #[.slice A0_0 l0_0.length c0_0, .int .i64 a0_1, .int .i64 a0_2] 26 (0, 0)) (by (with_reducible repeat (first | refine blk_drewN ?_ _ | refine blk_drew ?_ | refine blk_alloc ?_ _)); exact BK153.out)) : gb154 ≠ gb153)); clear BK153; clear HB; have BK153 := n0_; have HB := n1_; have BK154 := n2_; have GW154 := n3_; have GE154 := n4_; have NB153_154 := n5_; have NB154_153 := n6_; clear n0_ n1_ n2_ n3_ n4_ n5_ n6_; clear hb hbox hg))
        have n0_ := Aside0.mk (blk_drew BK153.out)
        have n1_ := Aside0.mk (blk_drew BK154.out)
        have n2_ := Aside0.mk (below_drew1 HB.out)
        clear BK153
        clear BK154
        clear HB
        have BK153 := n0_
        have BK154 := n1_
        have HB := n2_
        clear n0_ n1_ n2_
        refine start_ (n := 23) (S := fun w' => w'.cell? ⟨gb153, 0, none⟩ = some (.slice A0_0 l0_0.length c0_0) ∧ w'.cell? ⟨gb153, 1, none⟩ = some (.int .i64 a0_1) ∧ w'.cell? ⟨gb153, 2, none⟩ = some (.int .i64 a0_2) ∧ w'.cell? ⟨gb154, 0, none⟩ = some (.slice A1_0 l1_0.length c1_0) ∧ w'.cell? ⟨gb154, 1, none⟩ = some (.int .i64 a1_1) ∧ w'.cell? ⟨gb154, 2, none⟩ = some (.int .i64 a1_2)) (ds := []) #[false, false, false, false, false, false, false, false, false, false, false, false, false, false, false, false, false, false, false, false, false, false, false] (by kernel_rfl) rfl rfl ⟨(blk_cell BK153.out 0).trans rfl, (blk_cell BK153.out 1).trans rfl, (blk_cell BK153.out 2).trans rfl, (blk_cell BK154.out 0).trans rfl, (blk_cell BK154.out 1).trans rfl, (blk_cell BK154.out 2).trans rfl⟩ (fun hHeld => ?_); refine with_tabW term_Same.tab1 term_Same.bits1 (fun HT_ HW_ => ?_)
        generalize w12.drew = w13 at BK153 BK154 HB hHeld ⊢
        refine take_ (i := 0) (N := some 5) (v := ?_) (a' := ?_) #[true, false, false, false, false, false, false, false, false, false, false, false, false, false, false, false, false, false, false, false, false, false, false] rfl rfl (take_ofW HT_.out HW_.out (by kernel_rfl)) (fun _ _ _ h => h) (Or.inl ⟨by rfl, ?_⟩) hHeld ?_ ?_
        rotate_left
        · rintro w' ⟨s0, s1, s2, s3, s4, s5⟩
          go_simp
          with_reducible rfl
        rotate_left
        · simp only [Act.put, List.setIfInBounds_toArray, List.set_cons_zero, List.set_cons_succ, i64_w, i32_w]
          rfl
        refine one_ (i := 1) (N := some 6) #[true, true, false, false, false, false, false, false, false, false, false, false, false, false, false, false, false, false, false, false, false, false, false] rfl rfl (one_of HT_.out (by kernel_rfl)) (by decide) (fun K hK => ?_)
        refine goes_ Tryd.func18 (by kernel_rfl) rfl #[.agg #[.slice A0_0 l0_0.length c0_0, .int .i64 a0_1, .int .i64 a0_2]] (by rfl) rfl rfl (by (try simp only [List.map_toArray, List.map_cons, List.map_nil]); first | done | rfl | (simp only [List.length_drop, List.length_take]; rfl)) ?_
        with_reducible refine (term_Right.calls _ _ l0_0 a0_1 a0_2 true _ ?side1 ?side2 A3.out).mono ?_
        (case side1 => repeat (first | exact (Kd.C_below HR0_0.out HB.out) | (with_reducible refine Kd.C_alloc ?_ _) | (with_reducible refine Kd.C_drewN ?_ _) | (with_reducible refine Kd.C_drew ?_)))
        (case side2 => exact HC0_0.out)
        rintro e w14 ⟨rfl, hb⟩
        refine ⟨_, rfl, ?_⟩
        have n0_ := Aside0.mk (blk_below (g := gb153) (o := .cells #[.slice A0_0 l0_0.length c0_0, .int .i64 a0_1, .int .i64 a0_2] 26 (0, 0)) (by (with_reducible repeat (first | refine blk_drewN ?_ _ | refine blk_drew ?_ | refine blk_alloc ?_ _)); exact BK153.out) hb)
        have n1_ := Aside0.mk (blk_below (g := gb154) (o := .cells #[.slice A1_0 l1_0.length c1_0, .int .i64 a1_1, .int .i64 a1_2] 26 (0, 0)) (by (with_reducible repeat (first | refine blk_drewN ?_ _ | refine blk_drew ?_ | refine blk_alloc ?_ _)); exact BK154.out) hb)
        have n2_ := Aside0.mk (below_step (by repeat (first | (with_reducible first | exact HB.out | apply below_alloc | apply pw_below_drewN | apply below_drew1 | refine below_set ?_ GE153.out | refine below_set ?_ GE154.out) | exact HB.out)) hb)
        clear BK153
        clear BK154
        clear HB
        have BK153 := n0_
        have BK154 := n1_
        have HB := n2_
        clear n0_ n1_ n2_
        (try clear hb)
        (try clear hb2)
        (try clear hk)
        (try clear hi)
        refine hK.out _ _ ⟨(blk_cell BK153.out 0).trans rfl, (blk_cell BK153.out 1).trans rfl, (blk_cell BK153.out 2).trans rfl, (blk_cell BK154.out 0).trans rfl, (blk_cell BK154.out 1).trans rfl, (blk_cell BK154.out 2).trans rfl⟩ (fun hHeld => ?_)
        clear hK K
        refine norm_ (a' := ?_) ?_ ?_
        rotate_left
        · show Act.put _ (some 6) _ = _
          simp only [Act.put, List.setIfInBounds_toArray, List.set_cons_zero, List.set_cons_succ, i64_w, i32_w]
          rfl
        refine pure_ (i := 2) (N := some 7) (v := ?_) (a' := ?_) #[true, true, true, false, false, false, false, false, false, false, false, false, false, false, false, false, false, false, false, false, false, false, false] rfl rfl (any_of HT_.out (by kernel_rfl)) (fun _ _ _ h => h) (Or.inl ⟨by rfl, ?_⟩) ?_ ?_
        rotate_left
        · intro w'
          go_simp
          with_reducible rfl
        rotate_left
        · simp only [Act.put, List.setIfInBounds_toArray, List.set_cons_zero, List.set_cons_succ, i64_w, i32_w]
          rfl
        refine take_ (i := 3) (N := some 8) (v := ?_) (a' := ?_) #[true, true, true, true, false, false, false, false, false, false, false, false, false, false, false, false, false, false, false, false, false, false, false] rfl rfl (take_ofW HT_.out HW_.out (by kernel_rfl)) (fun _ _ _ h => h) (Or.inl ⟨by rfl, ?_⟩) hHeld ?_ ?_
        rotate_left
        · rintro w' ⟨s0, s1, s2, s3, s4, s5⟩
          go_simp
          with_reducible rfl
        rotate_left
        · simp only [Act.put, List.setIfInBounds_toArray, List.set_cons_zero, List.set_cons_succ, i64_w, i32_w]
          rfl
        refine one_ (i := 4) (N := some 9) #[true, true, true, true, true, false, false, false, false, false, false, false, false, false, false, false, false, false, false, false, false, false, false] rfl rfl (one_of HT_.out (by kernel_rfl)) (by decide) (fun K hK => ?_)
        refine goes_ Tryd.func18 (by kernel_rfl) rfl #[.agg #[.slice A1_0 l1_0.length c1_0, .int .i64 a1_1, .int .i64 a1_2]] (by rfl) rfl rfl (by (try simp only [List.map_toArray, List.map_cons, List.map_nil]); first | done | rfl | (simp only [List.length_drop, List.length_take]; rfl)) ?_
        with_reducible refine (term_Right.calls _ _ l1_0 a1_1 a1_2 true _ ?side1 ?side2 A5.out).mono ?_
        (case side1 => repeat (first | exact (Kd.C_below HR1_0.out HB.out) | (with_reducible refine Kd.C_alloc ?_ _) | (with_reducible refine Kd.C_drewN ?_ _) | (with_reducible refine Kd.C_drew ?_)))
        (case side2 => exact HC1_0.out)
        rintro e w15 ⟨rfl, hb⟩
        refine ⟨_, rfl, ?_⟩
        have n0_ := Aside0.mk (blk_below (g := gb153) (o := .cells #[.slice A0_0 l0_0.length c0_0, .int .i64 a0_1, .int .i64 a0_2] 26 (0, 0)) (by (with_reducible repeat (first | refine blk_drewN ?_ _ | refine blk_drew ?_ | refine blk_alloc ?_ _)); exact BK153.out) hb)
        have n1_ := Aside0.mk (blk_below (g := gb154) (o := .cells #[.slice A1_0 l1_0.length c1_0, .int .i64 a1_1, .int .i64 a1_2] 26 (0, 0)) (by (with_reducible repeat (first | refine blk_drewN ?_ _ | refine blk_drew ?_ | refine blk_alloc ?_ _)); exact BK154.out) hb)
        have n2_ := Aside0.mk (below_step (by repeat (first | (with_reducible first | exact HB.out | apply below_alloc | apply pw_below_drewN | apply below_drew1 | refine below_set ?_ GE153.out | refine below_set ?_ GE154.out) | exact HB.out)) hb)
        clear BK153
        clear BK154
        clear HB
        have BK153 := n0_
        have BK154 := n1_
        have HB := n2_
        clear n0_ n1_ n2_
        (try clear hb)
        (try clear hb2)
        (try clear hk)
        (try clear hi)
        refine hK.out _ _ ⟨(blk_cell BK153.out 0).trans rfl, (blk_cell BK153.out 1).trans rfl, (blk_cell BK153.out 2).trans rfl, (blk_cell BK154.out 0).trans rfl, (blk_cell BK154.out 1).trans rfl, (blk_cell BK154.out 2).trans rfl⟩ (fun hHeld => ?_)
        clear hK K
        refine norm_ (a' := ?_) ?_ ?_
        rotate_left
        · show Act.put _ (some 9) _ = _
          simp only [Act.put, List.setIfInBounds_toArray, List.set_cons_zero, List.set_cons_succ, i64_w, i32_w]
          rfl
        refine pure_ (i := 5) (N := some 10) (v := ?_) (a' := ?_) #[true, true, true, true, true, true, false, false, false, false, false, false, false, false, false, false, false, false, false, false, false, false, false] rfl rfl (any_of HT_.out (by kernel_rfl)) (fun _ _ _ h => h) (Or.inl ⟨by rfl, ?_⟩) ?_ ?_
        rotate_left
        · intro w'
          go_simp
          with_reducible rfl
        rotate_left
        · simp only [Act.put, List.setIfInBounds_toArray, List.set_cons_zero, List.set_cons_succ, i64_w, i32_w]
          rfl
        refine pure_ (i := 6) (N := some 11) (v := ?_) (a' := ?_) #[true, true, true, true, true, true, true, false, false, false, false, false, false, false, false, false, false, false, false, false, false, false, false] rfl rfl (any_of HT_.out (by kernel_rfl)) (fun _ _ _ h => h) (Or.inl ⟨by rfl, ?_⟩) ?_ ?_
        rotate_left
        · intro w'
          go_simp
          with_reducible rfl
        rotate_left
        · simp only [Act.put, List.setIfInBounds_toArray, List.set_cons_zero, List.set_cons_succ, i64_w, i32_w]
          rfl
        refine pure_ (i := 7) (N := some 12) (v := ?_) (a' := ?_) #[true, true, true, true, true, true, true, true, false, false, false, false, false, false, false, false, false, false, false, false, false, false, false] rfl rfl (any_of HT_.out (by kernel_rfl)) (fun _ _ _ h => h) (Or.inl ⟨by rfl, ?_⟩) ?_ ?_
        rotate_left
        · intro w'
          go_simp
          with_reducible rfl
        rotate_left
        · simp only [Act.put, List.setIfInBounds_toArray, List.set_cons_zero, List.set_cons_succ, i64_w, i32_w]
          rfl
        refine pure_ (i := 9) (N := some 14) (v := ?_) (a' := ?_) #[true, true, true, true, true, true, true, true, false, true, false, false, false, false, false, false, false, false, false, false, false, false, false] rfl rfl (any_of HT_.out (by kernel_rfl)) (fun _ _ _ h => h) (Or.inl ⟨by rfl, ?_⟩) ?_ ?_
        rotate_left
        · intro w'
          go_simp
          with_reducible rfl
        rotate_left
        · simp only [Act.put, List.setIfInBounds_toArray, List.set_cons_zero, List.set_cons_succ, i64_w, i32_w]
          rfl
        refine take_ (i := 8) (N := some 13) (v := ?_) (a' := ?_) #[true, true, true, true, true, true, true, true, true, true, false, false, false, false, false, false, false, false, false, false, false, false, false] rfl rfl (take_ofW HT_.out HW_.out (by kernel_rfl)) (fun _ _ _ h => h) (Or.inl ⟨by rfl, ?_⟩) hHeld ?_ ?_
        rotate_left
        · rintro w' ⟨s0, s1, s2, s3, s4, s5⟩
          go_simp
          with_reducible rfl
        rotate_left
        · simp only [Act.put, List.setIfInBounds_toArray, List.set_cons_zero, List.set_cons_succ, i64_w, i32_w]
          rfl
        refine take_ (i := 10) (N := some 15) (v := ?_) (a' := ?_) #[true, true, true, true, true, true, true, true, true, true, true, false, false, false, false, false, false, false, false, false, false, false, false] rfl rfl (take_ofW HT_.out HW_.out (by kernel_rfl)) (fun _ _ _ h => h) (Or.inl ⟨by rfl, ?_⟩) hHeld ?_ ?_
        rotate_left
        · rintro w' ⟨s0, s1, s2, s3, s4, s5⟩
          go_simp
          with_reducible rfl
        rotate_left
        · simp only [Act.put, List.setIfInBounds_toArray, List.set_cons_zero, List.set_cons_succ, i64_w, i32_w]
          rfl
        refine pure_ (i := 11) (N := some 16) (v := ?_) (a' := ?_) #[true, true, true, true, true, true, true, true, true, true, true, true, false, false, false, false, false, false, false, false, false, false, false] rfl rfl (any_of HT_.out (by kernel_rfl)) (fun _ _ _ h => h) (Or.inl ⟨by rfl, ?_⟩) ?_ ?_
        rotate_left
        · intro w'
          go_simp
          with_reducible rfl
        rotate_left
        · simp only [Act.put, List.setIfInBounds_toArray, List.set_cons_zero, List.set_cons_succ, i64_w, i32_w]
          rfl
        refine pure_ (i := 12) (N := some 17) (v := ?_) (a' := ?_) #[true, true, true, true, true, true, true, true, true, true, true, true, true, false, false, false, false, false, false, false, false, false, false] rfl rfl (any_of HT_.out (by kernel_rfl)) (fun _ _ _ h => h) (Or.inl ⟨by rfl, ?_⟩) ?_ ?_
        rotate_left
        · intro w'
          go_simp
          with_reducible rfl
        rotate_left
        · simp only [Act.put, List.setIfInBounds_toArray, List.set_cons_zero, List.set_cons_succ, i64_w, i32_w]
          rfl
        refine pure_ (i := 13) (N := some 18) (v := ?_) (a' := ?_) #[true, true, true, true, true, true, true, true, true, true, true, true, true, true, false, false, false, false, false, false, false, false, false] rfl rfl (any_of HT_.out (by kernel_rfl)) (fun _ _ _ h => h) (Or.inl ⟨by rfl, ?_⟩) ?_ ?_
        rotate_left
        · intro w'
          go_simp
          with_reducible rfl
        rotate_left
        · simp only [Act.put, List.setIfInBounds_toArray, List.set_cons_zero, List.set_cons_succ, i64_w, i32_w]
          rfl
        refine take_ (i := 14) (N := some 19) (v := ?_) (a' := ?_) #[true, true, true, true, true, true, true, true, true, true, true, true, true, true, true, false, false, false, false, false, false, false, false] rfl rfl (take_ofW HT_.out HW_.out (by kernel_rfl)) (fun _ _ _ h => h) (Or.inl ⟨by rfl, ?_⟩) hHeld ?_ ?_
        rotate_left
        · rintro w' ⟨s0, s1, s2, s3, s4, s5⟩
          go_simp
          with_reducible rfl
        rotate_left
        · simp only [Act.put, List.setIfInBounds_toArray, List.set_cons_zero, List.set_cons_succ, i64_w, i32_w]
          rfl
        refine take_ (i := 17) (N := some 22) (v := ?_) (a' := ?_) #[true, true, true, true, true, true, true, true, true, true, true, true, true, true, true, false, false, true, false, false, false, false, false] rfl rfl (take_ofW HT_.out HW_.out (by kernel_rfl)) (fun _ _ _ h => h) (Or.inl ⟨by rfl, ?_⟩) hHeld ?_ ?_
        rotate_left
        · rintro w' ⟨s0, s1, s2, s3, s4, s5⟩
          go_simp
          with_reducible rfl
        rotate_left
        · simp only [Act.put, List.setIfInBounds_toArray, List.set_cons_zero, List.set_cons_succ, i64_w, i32_w]
          rfl
        refine one_ (i := 15) (N := some 20) #[true, true, true, true, true, true, true, true, true, true, true, true, true, true, true, true, false, true, false, false, false, false, false] rfl rfl (one_of HT_.out (by kernel_rfl)) (by decide) (fun K hK => ?_)
        refine goes_ Tryd.func35 (by kernel_rfl) rfl #[.agg #[.slice A0_0 l0_0.length c0_0, .int .i64 a0_1, .int .i64 a0_2]] (by rfl) rfl rfl (by (try simp only [List.map_toArray, List.map_cons, List.map_nil]); first | done | rfl | (simp only [List.length_drop, List.length_take]; rfl)) ?_
        with_reducible refine (term_trim.calls k _ _ l0_0 a0_1 a0_2 t157 t160 t161 _ ?side1 ?side2 A8.out).mono ?_
        (case side1 => repeat (first | exact (Kd.C_below HR0_0.out HB.out) | (with_reducible refine Kd.C_alloc ?_ _) | (with_reducible refine Kd.C_drewN ?_ _) | (with_reducible refine Kd.C_drew ?_)))
        (case side2 => exact HC0_0.out)
        rintro e w16 ⟨v158, rfl, ho0, hb⟩
        refine ⟨_, rfl, ?_⟩
        have n0_ := Aside0.mk (Kd.R_lower ho0 (below_size (by repeat (first | (with_reducible first | exact HB.out | apply below_alloc | apply pw_below_drewN | apply below_drew1 | refine below_set ?_ GE153.out | refine below_set ?_ GE154.out) | exact HB.out))))
        have n1_ := Aside0.mk (blk_below (g := gb153) (o := .cells #[.slice A0_0 l0_0.length c0_0, .int .i64 a0_1, .int .i64 a0_2] 26 (0, 0)) (by (with_reducible repeat (first | refine blk_drewN ?_ _ | refine blk_drew ?_ | refine blk_alloc ?_ _)); exact BK153.out) hb)
        have n2_ := Aside0.mk (blk_below (g := gb154) (o := .cells #[.slice A1_0 l1_0.length c1_0, .int .i64 a1_1, .int .i64 a1_2] 26 (0, 0)) (by (with_reducible repeat (first | refine blk_drewN ?_ _ | refine blk_drew ?_ | refine blk_alloc ?_ _)); exact BK154.out) hb)
        have n3_ := Aside0.mk (below_step (by repeat (first | (with_reducible first | exact HB.out | apply below_alloc | apply pw_below_drewN | apply below_drew1 | refine below_set ?_ GE153.out | refine below_set ?_ GE154.out) | exact HB.out)) hb)
        clear BK153
        clear BK154
        clear HB
        have HO159 := n0_
        have BK153 := n1_
        have BK154 := n2_
        have HB := n3_
        clear n0_ n1_ n2_ n3_
        (try clear hb)
        (try clear hb2)
        (try clear hk)
        (try clear hi)
        (try clear ho0)
        refine hK.out _ _ ⟨(blk_cell BK153.out 0).trans rfl, (blk_cell BK153.out 1).trans rfl, (blk_cell BK153.out 2).trans rfl, (blk_cell BK154.out 0).trans rfl, (blk_cell BK154.out 1).trans rfl, (blk_cell BK154.out 2).trans rfl⟩ (fun hHeld => ?_)
        clear hK K
        refine norm_ (a' := ?_) ?_ ?_
        rotate_left
        · show Act.put _ (some 20) _ = _
          simp only [Act.put, List.setIfInBounds_toArray, List.set_cons_zero, List.set_cons_succ, i64_w, i32_w]
          rfl
        refine pure_ (i := 16) (N := some 21) (v := ?_) (a' := ?_) #[true, true, true, true, true, true, true, true, true, true, true, true, true, true, true, true, true, true, false, false, false, false, false] rfl rfl (any_of HT_.out (by kernel_rfl)) (fun _ _ _ h => h) (Or.inl ⟨by rfl, ?_⟩) ?_ ?_
        rotate_left
        · intro w'
          go_simp
          with_reducible rfl
        rotate_left
        · simp only [Act.put, List.setIfInBounds_toArray, List.set_cons_zero, List.set_cons_succ, i64_w, i32_w]
          rfl
        refine one_ (i := 18) (N := some 23) #[true, true, true, true, true, true, true, true, true, true, true, true, true, true, true, true, true, true, true, false, false, false, false] rfl rfl (one_of HT_.out (by kernel_rfl)) (by decide) (fun K hK => ?_)
        refine goes_ Tryd.func35 (by kernel_rfl) rfl #[.agg #[.slice A1_0 l1_0.length c1_0, .int .i64 a1_1, .int .i64 a1_2]] (by rfl) rfl rfl (by (try simp only [List.map_toArray, List.map_cons, List.map_nil]); first | done | rfl | (simp only [List.length_drop, List.length_take]; rfl)) ?_
        with_reducible refine (term_trim.calls k _ _ l1_0 a1_1 a1_2 t162 t165 t166 _ ?side1 ?side2 A9.out).mono ?_
        (case side1 => repeat (first | exact (Kd.C_below HR1_0.out HB.out) | (with_reducible refine Kd.C_alloc ?_ _) | (with_reducible refine Kd.C_drewN ?_ _) | (with_reducible refine Kd.C_drew ?_)))
        (case side2 => exact HC1_0.out)
        rintro e w17 ⟨v163, rfl, ho0, hb⟩
        refine ⟨_, rfl, ?_⟩
        have n0_ := Aside0.mk (Kd.R_elder' (by (with_reducible repeat (first | apply Kd.R_alloc | apply Kd.R_drewN | apply Kd.R_drew)); exact HO159.out) (Kd.R_base ho0) hb)
        have n1_ := Aside0.mk (Kd.R_lower (Kd.R_new' ho0 (Kd.R_lt (by (with_reducible repeat (first | apply Kd.R_alloc | apply Kd.R_drewN | apply Kd.R_drew)); exact HO159.out))) (below_size (by repeat (first | (with_reducible first | exact HB.out | apply below_alloc | apply pw_below_drewN | apply below_drew1 | refine below_set ?_ GE153.out | refine below_set ?_ GE154.out) | exact HB.out))))
        have n2_ := Aside0.mk (blk_below (g := gb153) (o := .cells #[.slice A0_0 l0_0.length c0_0, .int .i64 a0_1, .int .i64 a0_2] 26 (0, 0)) (by (with_reducible repeat (first | refine blk_drewN ?_ _ | refine blk_drew ?_ | refine blk_alloc ?_ _)); exact BK153.out) hb)
        have n3_ := Aside0.mk (blk_below (g := gb154) (o := .cells #[.slice A1_0 l1_0.length c1_0, .int .i64 a1_1, .int .i64 a1_2] 26 (0, 0)) (by (with_reducible repeat (first | refine blk_drewN ?_ _ | refine blk_drew ?_ | refine blk_alloc ?_ _)); exact BK154.out) hb)
        have n4_ := Aside0.mk (below_step (by repeat (first | (with_reducible first | exact HB.out | apply below_alloc | apply pw_below_drewN | apply below_drew1 | refine below_set ?_ GE153.out | refine below_set ?_ GE154.out) | exact HB.out)) hb)
        clear HO159
        clear BK153
        clear BK154
        clear HB
        have HO159 := n0_
        have HO164 := n1_
        have BK153 := n2_
        have BK154 := n3_
        have HB := n4_
        clear n0_ n1_ n2_ n3_ n4_
        (try clear hb)
        (try clear hb2)
        (try clear hk)
        (try clear hi)
        (try clear ho0)
        obtain ⟨Ao18, co18, eo18⟩ := Kd.R_slice HO159.out
        (first | subst eo18 | (injection eo18 with f1_ f2_ f3_; have f4_ := f1_.symm; have f5_ := f3_.symm; clear f1_ f2_ f3_; subst f4_; subst f5_))
        obtain ⟨Ao19, co19, eo19⟩ := Kd.R_slice HO164.out
        (first | subst eo19 | (injection eo19 with f1_ f2_ f3_; have f4_ := f1_.symm; have f5_ := f3_.symm; clear f1_ f2_ f3_; subst f4_; subst f5_))
        refine hK.out _ _ ⟨(blk_cell BK153.out 0).trans rfl, (blk_cell BK153.out 1).trans rfl, (blk_cell BK153.out 2).trans rfl, (blk_cell BK154.out 0).trans rfl, (blk_cell BK154.out 1).trans rfl, (blk_cell BK154.out 2).trans rfl⟩ (fun hHeld => ?_)
        clear hK K
        refine norm_ (a' := ?_) ?_ ?_
        rotate_left
        · show Act.put _ (some 23) _ = _
          simp only [Act.put, List.setIfInBounds_toArray, List.set_cons_zero, List.set_cons_succ, i64_w, i32_w]
          rfl
        refine pure_ (i := 19) (N := some 24) (v := ?_) (a' := ?_) #[true, true, true, true, true, true, true, true, true, true, true, true, true, true, true, true, true, true, true, true, false, false, false] rfl rfl (any_of HT_.out (by kernel_rfl)) (fun _ _ _ h => h) (Or.inl ⟨by rfl, ?_⟩) ?_ ?_
        rotate_left
        · intro w'
          go_simp
          with_reducible rfl
        rotate_left
        · simp only [Act.put, List.setIfInBounds_toArray, List.set_cons_zero, List.set_cons_succ, i64_w, i32_w]
          rfl
        refine one_ (i := 20) (N := some 25) #[true, true, true, true, true, true, true, true, true, true, true, true, true, true, true, true, true, true, true, true, true, false, false] rfl rfl (one_of HT_.out (by kernel_rfl)) (by decide) (fun K hK => ?_)
        refine goes_ Tryd.func34 (by kernel_rfl) rfl #[.slice Ao18 t157.length co18, .slice Ao19 t162.length co19] (by rfl) rfl rfl (by (try simp only [List.map_toArray, List.map_cons, List.map_nil]); first | done | rfl | (simp only [List.length_drop, List.length_take]; rfl)) ?_
        with_reducible refine (api_Rat_34.calls k _ _ t157 _ _ t162 t167 _ ?side1 ?side2 ?side3 ?side4 A10.out).mono ?_
        (case side1 => repeat (first | exact (Kd.R_reads' HO159.out).2.2 | (with_reducible refine Kd.C_alloc ?_ _) | (with_reducible refine Kd.C_drewN ?_ _) | (with_reducible refine Kd.C_drew ?_)))
        (case side2 => exact (Kd.R_reads' HO159.out).2.1)
        (case side3 => repeat (first | exact (Kd.R_reads' HO164.out).2.2 | (with_reducible refine Kd.C_alloc ?_ _) | (with_reducible refine Kd.C_drewN ?_ _) | (with_reducible refine Kd.C_drew ?_)))
        (case side4 => exact (Kd.R_reads' HO164.out).2.1)
        rintro e w' ⟨rfl, ⟨nd, rfl⟩⟩
        refine ⟨_, rfl, ?_⟩
        refine hK.out _ _ ⟨(blk_cell BK153.out 0).trans rfl, (blk_cell BK153.out 1).trans rfl, (blk_cell BK153.out 2).trans rfl, (blk_cell BK154.out 0).trans rfl, (blk_cell BK154.out 1).trans rfl, (blk_cell BK154.out 2).trans rfl⟩ (fun hHeld => ?_)
        clear hK K
        refine norm_ (a' := ?_) ?_ ?_
        rotate_left
        · show Act.put _ (some 25) _ = _
          simp only [Act.put, List.setIfInBounds_toArray, List.set_cons_zero, List.set_cons_succ, i64_w, i32_w]
          rfl
        refine pure_ (i := 21) (N := some 26) (v := ?_) (a' := ?_) #[true, true, true, true, true, true, true, true, true, true, true, true, true, true, true, true, true, true, true, true, true, true, false] rfl rfl (any_of HT_.out (by kernel_rfl)) (fun _ _ _ h => h) (Or.inl ⟨by rfl, ?_⟩) ?_ ?_
        rotate_left
        · intro w'
          go_simp
          with_reducible rfl
        rotate_left
        · simp only [Act.put, List.setIfInBounds_toArray, List.set_cons_zero, List.set_cons_succ, i64_w, i32_w]
          rfl
        refine pure_ (i := 22) (N := some 4) (v := ?_) (a' := ?_) #[true, true, true, true, true, true, true, true, true, true, true, true, true, true, true, true, true, true, true, true, true, true, true] rfl rfl (any_of HT_.out (by kernel_rfl)) (fun _ _ _ h => h) (Or.inl ⟨by rfl, ?_⟩) ?_ ?_
        rotate_left
        · intro w'
          go_simp
          with_reducible rfl
        rotate_left
        · simp only [Act.put, List.setIfInBounds_toArray, List.set_cons_zero, List.set_cons_succ, i64_w, i32_w]
          rfl
        refine done_ (done_of HT_.out (by kernel_rfl)) ?_
        try go_wp2
        go_ret
        exact ⟨by first | rfl | (simp [errW_none, errW_some] <;> rfl) | (simp [*, errW_none, errW_some] <;> rfl), by repeat (first | (with_reducible first | exact HB.out | apply below_alloc | apply pw_below_drewN | apply below_drew1 | refine below_set ?_ GE153.out | refine below_set ?_ GE154.out) | exact HB.out)⟩
      · rw [if_neg c7] at H
        have c7b0 : (a0_1 == a1_1 && (a0_2 == a1_2)) = false := by simpa using c7
        (try (have c7b1 : decide (a0_1 = a1_1 && (a0_2 == a1_2)) = false := by simpa using c7))
        (try (have c7b2 : (a0_1 == a1_1 && (a0_2 == a1_2)) = false := by simpa using c7))
        (try (have c7b3 : ¬ (a0_1 = a1_1 && (a0_2 == a1_2)) := by simpa using c7))
        clear c7
        obtain rfl := Option.some.inj H
        go_enter Tryd.func16, Tryd.ntmps16
        try go_wp2_with (first | ((with_reducible refine gate_dst (N := 2) rfl ?_); refine box_event ?hg (N := 2) ?hd (cs := #[.slice A0_0 l0_0.length c0_0, .int .i64 a0_1, .int .i64 a0_2]) (t := 26) ?hr ?_; (case hd => rfl); (case hg => rfl); (case hr => first | (go_simp; done) | (go_simp; rfl)); intro gb153 hg w20 hbox hb; have n0_ := Aside0.mk (below_step (by repeat (first | (with_reducible first | exact HB.out | apply below_alloc | apply pw_below_drewN | apply below_drew1) | exact HB.out)) hb); have n1_ := Aside0.mk (hbox); have n2_ := Aside0.mk ((by rw [hg]; exact (below_size (by repeat (first | (with_reducible first | exact HB.out | apply below_alloc | apply pw_below_drewN | apply below_drew1) | exact HB.out))) : w.heap.size ≤ gb153)); have n3_ := Aside0.mk ((by rw [hg]; exact (below_size (by repeat (first | (with_reducible first | exact HB.out | apply below_alloc | apply pw_below_drewN | apply below_drew1) | exact HB.out))) : w.heap.size ≤ gb153)); clear HB; have HB := n0_; have BK153 := n1_; have GW153 := n2_; have GE153 := n3_; clear n0_ n1_ n2_ n3_; clear hb hbox hg) | ((with_reducible refine gate_dst (N := 3) rfl ?_); refine box_event ?hg (N := 3) ?hd (cs := #[.slice A1_0 l1_0.length c1_0, .int .i64 a1_1, .int .i64 a1_2]) (t := 26) ?hr ?_; (case hd => rfl); (case hg => rfl); (case hr => first | (go_simp; done) | (go_simp; rfl)); intro gb154 hg w21 hbox hb; have n0_ := Aside0.mk (blk_below (g := gb153) (o := .cells #[.slice A0_0 l0_0.length c0_0, .int .i64 a0_1, .int .i64 a0_2] 26 (0, 0)) (by (with_reducible repeat (first | refine blk_drewN ?_ _ | refine blk_drew ?_ | refine blk_alloc ?_ _)); exact BK153.out) hb); have n1_ := Aside0.mk (below_step (by repeat (first | (with_reducible first | exact HB.out | apply below_alloc | apply pw_below_drewN | apply below_drew1 | refine below_set ?_ GE153.out) | exact HB.out)) hb); have n2_ := Aside0.mk (hbox); have n3_ := Aside0.mk ((by rw [hg]; exact (below_size (by repeat (first | (with_reducible first | exact HB.out | apply below_alloc | apply pw_below_drewN | apply below_drew1 | refine below_set ?_ GE153.out) | exact HB.out))) : w.heap.size ≤ gb154)); have n4_ := Aside0.mk ((by rw [hg]; exact (below_size (by repeat (first | (with_reducible first | exact HB.out | apply below_alloc | apply pw_below_drewN | apply below_drew1 | refine below_set ?_ GE153.out) | exact HB.out))) : w.heap.size ≤ gb154)); have n5_ := Aside0.mk ((by rw [hg]; exact Nat.ne_of_lt (blk_lt (g := gb153) (o := .cells #[.slice A0_0 l0_0.length c0_0, .int .i64 a0_1, .int .i64 a0_2] 26 (0, 0)) (by (with_reducible repeat (first | refine blk_drewN ?_ _ | refine blk_drew ?_ | refine blk_alloc ?_ _)); exact BK153.out)) : gb153 ≠ gb154)); have n6_ := Aside0.mk ((by rw [hg]; exact Nat.ne_of_gt (blk_lt (g := gb153) (o := .cells #[.slice A0_0 l0_0.length c0_0, .int .i64 a0_1, .int .i64 a0_2] 26 (0, 0)) (by (with_reducible repeat (first | refine blk_drewN ?_ _ | refine blk_drew ?_ | refine blk_alloc ?_ _)); exact BK153.out)) : gb154 ≠ gb153)); clear BK153; clear HB; have BK153 := n0_; have HB := n1_; have BK154 := n2_; have GW154 := n3_; have GE154 := n4_; have NB153_154 := n5_; have NB154_153 := n6_; clear n0_ n1_ n2_ n3_ n4_ n5_ n6_; clear hb hbox hg))
        have n0_ := Aside0.mk (blk_drew BK153.out)
        have n1_ := Aside0.mk (blk_drew BK154.out)
        have n2_ := Aside0.mk (below_drew1 HB.out)
        clear BK153
        clear BK154
        clear HB
        have BK153 := n0_
        have BK154 := n1_
        have HB := n2_
        clear n0_ n1_ n2_
        refine start_ (n := 23) (S := fun w' => w'.cell? ⟨gb153, 0, none⟩ = some (.slice A0_0 l0_0.length c0_0) ∧ w'.cell? ⟨gb153, 1, none⟩ = some (.int .i64 a0_1) ∧ w'.cell? ⟨gb153, 2, none⟩ = some (.int .i64 a0_2) ∧ w'.cell? ⟨gb154, 0, none⟩ = some (.slice A1_0 l1_0.length c1_0) ∧ w'.cell? ⟨gb154, 1, none⟩ = some (.int .i64 a1_1) ∧ w'.cell? ⟨gb154, 2, none⟩ = some (.int .i64 a1_2)) (ds := []) #[false, false, false, false, false, false, false, false, false, false, false, false, false, false, false, false, false, false, false, false, false, false, false] (by kernel_rfl) rfl rfl ⟨(blk_cell BK153.out 0).trans rfl, (blk_cell BK153.out 1).trans rfl, (blk_cell BK153.out 2).trans rfl, (blk_cell BK154.out 0).trans rfl, (blk_cell BK154.out 1).trans rfl, (blk_cell BK154.out 2).trans rfl⟩ (fun hHeld => ?_); refine with_tabW term_Same.tab1 term_Same.bits1 (fun HT_ HW_ => ?_)
        generalize w21.drew = w22 at BK153 BK154 HB hHeld ⊢
        refine take_ (i := 0) (N := some 5) (v := ?_) (a' := ?_) #[true, false, false, false, false, false, false, false, false, false, false, false, false, false, false, false, false, false, false, false, false, false, false] rfl rfl (take_ofW HT_.out HW_.out (by kernel_rfl)) (fun _ _ _ h => h) (Or.inl ⟨by rfl, ?_⟩) hHeld ?_ ?_
        rotate_left
        · rintro w' ⟨s0, s1, s2, s3, s4, s5⟩
          go_simp
          with_reducible rfl
        rotate_left
        · simp only [Act.put, List.setIfInBounds_toArray, List.set_cons_zero, List.set_cons_succ, i64_w, i32_w]
          rfl
        refine one_ (i := 1) (N := some 6) #[true, true, false, false, false, false, false, false, false, false, false, false, false, false, false, false, false, false, false, false, false, false, false] rfl rfl (one_of HT_.out (by kernel_rfl)) (by decide) (fun K hK => ?_)
        refine goes_ Tryd.func18 (by kernel_rfl) rfl #[.agg #[.slice A0_0 l0_0.length c0_0, .int .i64 a0_1, .int .i64 a0_2]] (by rfl) rfl rfl (by (try simp only [List.map_toArray, List.map_cons, List.map_nil]); first | done | rfl | (simp only [List.length_drop, List.length_take]; rfl)) ?_
        with_reducible refine (term_Right.calls _ _ l0_0 a0_1 a0_2 true _ ?side1 ?side2 A3.out).mono ?_
        (case side1 => repeat (first | exact (Kd.C_below HR0_0.out HB.out) | (with_reducible refine Kd.C_alloc ?_ _) | (with_reducible refine Kd.C_drewN ?_ _) | (with_reducible refine Kd.C_drew ?_)))
        (case side2 => exact HC0_0.out)
        rintro e w23 ⟨rfl, hb⟩
        refine ⟨_, rfl, ?_⟩
        have n0_ := Aside0.mk (blk_below (g := gb153) (o := .cells #[.slice A0_0 l0_0.length c0_0, .int .i64 a0_1, .int .i64 a0_2] 26 (0, 0)) (by (with_reducible repeat (first | refine blk_drewN ?_ _ | refine blk_drew ?_ | refine blk_alloc ?_ _)); exact BK153.out) hb)
        have n1_ := Aside0.mk (blk_below (g := gb154) (o := .cells #[.slice A1_0 l1_0.length c1_0, .int .i64 a1_1, .int .i64 a1_2] 26 (0, 0)) (by (with_reducible repeat (first | refine blk_drewN ?_ _ | refine blk_drew ?_ | refine blk_alloc ?_ _)); exact BK154.out) hb)
        have n2_ := Aside0.mk (below_step (by repeat (first | (with_reducible first | exact HB.out | apply below_alloc | apply pw_below_drewN | apply below_drew1 | refine below_set ?_ GE153.out | refine below_set ?_ GE154.out) | exact HB.out)) hb)
        clear BK153
        clear BK154
        clear HB
        have BK153 := n0_
        have BK154 := n1_
        have HB := n2_
        clear n0_ n1_ n2_
        (try clear hb)
        (try clear hb2)
        (try clear hk)
        (try clear hi)
        refine hK.out _ _ ⟨(blk_cell BK153.out 0).trans rfl, (blk_cell BK153.out 1).trans rfl, (blk_cell BK153.out 2).trans rfl, (blk_cell BK154.out 0).trans rfl, (blk_cell BK154.out 1).trans rfl, (blk_cell BK154.out 2).trans rfl⟩ (fun hHeld => ?_)
        clear hK K
        refine norm_ (a' := ?_) ?_ ?_
        rotate_left
        · show Act.put _ (some 6) _ = _
          simp only [Act.put, List.setIfInBounds_toArray, List.set_cons_zero, List.set_cons_succ, i64_w, i32_w]
          rfl
        refine pure_ (i := 2) (N := some 7) (v := ?_) (a' := ?_) #[true, true, true, false, false, false, false, false, false, false, false, false, false, false, false, false, false, false, false, false, false, false, false] rfl rfl (any_of HT_.out (by kernel_rfl)) (fun _ _ _ h => h) (Or.inl ⟨by rfl, ?_⟩) ?_ ?_
        rotate_left
        · intro w'
          go_simp
          with_reducible rfl
        rotate_left
        · simp only [Act.put, List.setIfInBounds_toArray, List.set_cons_zero, List.set_cons_succ, i64_w, i32_w]
          rfl
        refine take_ (i := 3) (N := some 8) (v := ?_) (a' := ?_) #[true, true, true, true, false, false, false, false, false, false, false, false, false, false, false, false, false, false, false, false, false, false, false] rfl rfl (take_ofW HT_.out HW_.out (by kernel_rfl)) (fun _ _ _ h => h) (Or.inl ⟨by rfl, ?_⟩) hHeld ?_ ?_
        rotate_left
        · rintro w' ⟨s0, s1, s2, s3, s4, s5⟩
          go_simp
          with_reducible rfl
        rotate_left
        · simp only [Act.put, List.setIfInBounds_toArray, List.set_cons_zero, List.set_cons_succ, i64_w, i32_w]
          rfl
        refine one_ (i := 4) (N := some 9) #[true, true, true, true, true, false, false, false, false, false, false, false, false, false, false, false, false, false, false, false, false, false, false] rfl rfl (one_of HT_.out (by kernel_rfl)) (by decide) (fun K hK => ?_)
        refine goes_ Tryd.func18 (by kernel_rfl) rfl #[.agg #[.slice A1_0 l1_0.length c1_0, .int .i64 a1_1, .int .i64 a1_2]] (by rfl) rfl rfl (by (try simp only [List.map_toArray, List.map_cons, List.map_nil]); first | done | rfl | (simp only [List.length_drop, List.length_take]; rfl)) ?_
        with_reducible refine (term_Right.calls _ _ l1_0 a1_1 a1_2 true _ ?side1 ?side2 A5.out).mono ?_
        (case side1 => repeat (first | exact (Kd.C_below HR1_0.out HB.out) | (with_reducible refine Kd.C_alloc ?_ _) | (with_reducible refine Kd.C_drewN ?_ _) | (with_reducible refine Kd.C_drew ?_)))
        (case side2 => exact HC1_0.out)
        rintro e w24 ⟨rfl, hb⟩
        refine ⟨_, rfl, ?_⟩
        have n0_ := Aside0.mk (blk_below (g := gb153) (o := .cells #[.slice A0_0 l0_0.length c0_0, .int .i64 a0_1, .int .i64 a0_2] 26 (0, 0)) (by (with_reducible repeat (first | refine blk_drewN ?_ _ | refine blk_drew ?_ | refine blk_alloc ?_ _)); exact BK153.out) hb)
        have n1_ := Aside0.mk (blk_below (g := gb154) (o := .cells #[.slice A1_0 l1_0.length c1_0, .int .i64 a1_1, .int .i64 a1_2] 26 (0, 0)) (by (with_reducible repeat (first | refine blk_drewN ?_ _ | refine blk_drew ?_ | refine blk_alloc ?_ _)); exact BK154.out) hb)
        have n2_ := Aside0.mk (below_step (by repeat (first | (with_reducible first | exact HB.out | apply below_alloc | apply pw_below_drewN | apply below_drew1 | refine below_set ?_ GE153.out | refine below_set ?_ GE154.out) | exact HB.out)) hb)
        clear BK153
        clear BK154
        clear HB
        have BK153 := n0_
        have BK154 := n1_
        have HB := n2_
        clear n0_ n1_ n2_
        (try clear hb)
        (try clear hb2)
        (try clear hk)
        (try clear hi)
        refine hK.out _ _ ⟨(blk_cell BK153.out 0).trans rfl, (blk_cell BK153.out 1).trans rfl, (blk_cell BK153.out 2).trans rfl, (blk_cell BK154.out 0).trans rfl, (blk_cell BK154.out 1).trans rfl, (blk_cell BK154.out 2).trans rfl⟩ (fun hHeld => ?_)
        clear hK K
        refine norm_ (a' := ?_) ?_ ?_
        rotate_left
        · show Act.put _ (some 9) _ = _
          simp only [Act.put, List.setIfInBounds_toArray, List.set_cons_zero, List.set_cons_succ, i64_w, i32_w]
          rfl
        refine pure_ (i := 5) (N := some 10) (v := ?_) (a' := ?_) #[true, true, true, true, true, true, false, false, false, false, false, false, false, false, false, false, false, false, false, false, false, false, false] rfl rfl (any_of HT_.out (by kernel_rfl)) (fun _ _ _ h => h) (Or.inl ⟨by rfl, ?_⟩) ?_ ?_
        rotate_left
        · intro w'
          go_simp
          with_reducible rfl
        rotate_left
        · simp only [Act.put, List.setIfInBounds_toArray, List.set_cons_zero, List.set_cons_succ, i64_w, i32_w]
          rfl
        refine pure_ (i := 6) (N := some 11) (v := ?_) (a' := ?_) #[true, true, true, true, true, true, true, false, false, false, false, false, false, false, false, false, false, false, false, false, false, false, false] rfl rfl (any_of HT_.out (by kernel_rfl)) (fun _ _ _ h => h) (Or.inl ⟨by rfl, ?_⟩) ?_ ?_
        rotate_left
        · intro w'
          go_simp
          with_reducible rfl
        rotate_left
        · simp only [Act.put, List.setIfInBounds_toArray, List.set_cons_zero, List.set_cons_succ, i64_w, i32_w]
          rfl
        refine pure_ (i := 7) (N := some 12) (v := ?_) (a' := ?_) #[true, true, true, true, true, true, true, true, false, false, false, false, false, false, false, false, false, false, false, false, false, false, false] rfl rfl (any_of HT_.out (by kernel_rfl)) (fun _ _ _ h => h) (Or.inl ⟨by rfl, ?_⟩) ?_ ?_
        rotate_left
        · intro w'
          go_simp
          with_reducible rfl
        rotate_left
        · simp only [Act.put, List.setIfInBounds_toArray, List.set_cons_zero, List.set_cons_succ, i64_w, i32_w]
          rfl
        refine pure_ (i := 9) (N := some 14) (v := ?_) (a' := ?_) #[true, true, true, true, true, true, true, true, false, true, false, false, false, false, false, false, false, false, false, false, false, false, false] rfl rfl (any_of HT_.out (by kernel_rfl)) (fun _ _ _ h => h) (Or.inl ⟨by rfl, ?_⟩) ?_ ?_
        rotate_left
        · intro w'
          go_simp
          with_reducible rfl
        rotate_left
        · simp only [Act.put, List.setIfInBounds_toArray, List.set_cons_zero, List.set_cons_succ, i64_w, i32_w]
          rfl
        refine take_ (i := 8) (N := some 13) (v := ?_) (a' := ?_) #[true, true, true, true, true, true, true, true, true, true, false, false, false, false, false, false, false, false, false, false, false, false, false] rfl rfl (take_ofW HT_.out HW_.out (by kernel_rfl)) (fun _ _ _ h => h) (Or.inl ⟨by rfl, ?_⟩) hHeld ?_ ?_
        rotate_left
        · rintro w' ⟨s0, s1, s2, s3, s4, s5⟩
          go_simp
          with_reducible rfl
        rotate_left
        · simp only [Act.put, List.setIfInBounds_toArray, List.set_cons_zero, List.set_cons_succ, i64_w, i32_w]
          rfl
        refine take_ (i := 10) (N := some 15) (v := ?_) (a' := ?_) #[true, true, true, true, true, true, true, true, true, true, true, false, false, false, false, false, false, false, false, false, false, false, false] rfl rfl (take_ofW HT_.out HW_.out (by kernel_rfl)) (fun _ _ _ h => h) (Or.inl ⟨by rfl, ?_⟩) hHeld ?_ ?_
        rotate_left
        · rintro w' ⟨s0, s1, s2, s3, s4, s5⟩
          go_simp
          with_reducible rfl
        rotate_left
        · simp only [Act.put, List.setIfInBounds_toArray, List.set_cons_zero, List.set_cons_succ, i64_w, i32_w]
          rfl
        refine pure_ (i := 11) (N := some 16) (v := ?_) (a' := ?_) #[true, true, true, true, true, true, true, true, true, true, true, true, false, false, false, false, false, false, false, false, false, false, false] rfl rfl (any_of HT_.out (by kernel_rfl)) (fun _ _ _ h => h) (Or.inl ⟨by rfl, ?_⟩) ?_ ?_
        rotate_left
        · intro w'
          go_simp
          with_reducible rfl
        rotate_left
        · simp only [Act.put, List.setIfInBounds_toArray, List.set_cons_zero, List.set_cons_succ, i64_w, i32_w]
          rfl
        refine pure_ (i := 12) (N := some 17) (v := ?_) (a' := ?_) #[true, true, true, true, true, true, true, true, true, true, true, true, true, false, false, false, false, false, false, false, false, false, false] rfl rfl (any_of HT_.out (by kernel_rfl)) (fun _ _ _ h => h) (Or.inl ⟨by rfl, ?_⟩) ?_ ?_
        rotate_left
        · intro w'
          go_simp
          with_reducible rfl
        rotate_left
        · simp only [Act.put, List.setIfInBounds_toArray, List.set_cons_zero, List.set_cons_succ, i64_w, i32_w]
          rfl
        refine pure_ (i := 13) (N := some 18) (v := ?_) (a' := ?_) #[true, true, true, true, true, true, true, true, true, true, true, true, true, true, false, false, false, false, false, false, false, false, false] rfl rfl (any_of HT_.out (by kernel_rfl)) (fun _ _ _ h => h) (Or.inl ⟨by rfl, ?_⟩) ?_ ?_
        rotate_left
        · intro w'
          go_simp
          with_reducible rfl
        rotate_left
        · simp only [Act.put, List.setIfInBounds_toArray, List.set_cons_zero, List.set_cons_succ, i64_w, i32_w]
          rfl
        refine pure_ (i := 14) (N := some 19) (v := undef) (a' := ?_) #[true, true, true, true, true, true, true, true, true, true, true, true, true, true, true, false, false, false, false, false, false, false, false] rfl rfl (any_of HT_.out (by kernel_rfl)) (fun _ _ _ h => h) (Or.inr ⟨by rfl, rfl⟩) ?_ ?_
        rotate_left
        · simp only [Act.put, List.setIfInBounds_toArray, List.set_cons_zero, List.set_cons_succ, i64_w, i32_w]
          rfl
        refine pure_ (i := 15) (N := some 20) (v := undef) (a' := ?_) #[true, true, true, true, true, true, true, true, true, true, true, true, true, true, true, true, false, false, false, false, false, false, false] rfl rfl (any_of HT_.out (by kernel_rfl)) (fun _ _ _ h => h) (Or.inr ⟨by rfl, rfl⟩) ?_ ?_
        rotate_left
        · simp only [Act.put, List.setIfInBounds_toArray, List.set_cons_zero, List.set_cons_succ, i64_w, i32_w]
          rfl
        refine pure_ (i := 16) (N := some 21) (v := undef) (a' := ?_) #[true, true, true, true, true, true, true, true, true, true, true, true, true, true, true, true, true, false, false, false, false, false, false] rfl rfl (any_of HT_.out (by kernel_rfl)) (fun _ _ _ h => h) (Or.inr ⟨by rfl, rfl⟩) ?_ ?_
        rotate_left
        · simp only [Act.put, List.setIfInBounds_toArray, List.set_cons_zero, List.set_cons_succ, i64_w, i32_w]
          rfl
        refine pure_ (i := 17) (N := some 22) (v := undef) (a' := ?_) #[true, true, true, true, true, true, true, true, true, true, true, true, true, true, true, true, true, true, false, false, false, false, false] rfl rfl (any_of HT_.out (by kernel_rfl)) (fun _ _ _ h => h) (Or.inr ⟨by rfl, rfl⟩) ?_ ?_
        rotate_left
        · simp only [Act.put, List.setIfInBounds_toArray, List.set_cons_zero, List.set_cons_succ, i64_w, i32_w]
          rfl
        refine pure_ (i := 18) (N := some 23) (v := undef) (a' := ?_) #[true, true, true, true, true, true, true, true, true, true, true, true, true, true, true, true, true, true, true, false, false, false, false] rfl rfl (any_of HT_.out (by kernel_rfl)) (fun _ _ _ h => h) (Or.inr ⟨by rfl, rfl⟩) ?_ ?_
        rotate_left
        · simp only [Act.put, List.setIfInBounds_toArray, List.set_cons_zero, List.set_cons_succ, i64_w, i32_w]
          rfl
        refine pure_ (i := 19) (N := some 24) (v := undef) (a' := ?_) #[true, true, true, true, true, true, true, true, true, true, true, true, true, true, true, true, true, true, true, true, false, false, false] rfl rfl (any_of HT_.out (by kernel_rfl)) (fun _ _ _ h => h) (Or.inr ⟨by rfl, rfl⟩) ?_ ?_
        rotate_left
        · simp only [Act.put, List.setIfInBounds_toArray, List.set_cons_zero, List.set_cons_succ, i64_w, i32_w]
          rfl
        refine pure_ (i := 20) (N := some 25) (v := undef) (a' := ?_) #[true, true, true, true, true, true, true, true, true, true, true, true, true, true, true, true, true, true, true, true, true, false, false] rfl rfl (any_of HT_.out (by kernel_rfl)) (fun _ _ _ h => h) (Or.inr ⟨by rfl, rfl⟩) ?_ ?_
        rotate_left
        · simp only [Act.put, List.setIfInBounds_toArray, List.set_cons_zero, List.set_cons_succ, i64_w, i32_w]
          rfl
        refine pure_ (i := 21) (N := some 26) (v := ?_) (a' := ?_) #[true, true, true, true, true, true, true, true, true, true, true, true, true, true, true, true, true, true, true, true, true, true, false] rfl rfl (any_of HT_.out (by kernel_rfl)) (fun _ _ _ h => h) (Or.inl ⟨by rfl, ?_⟩) ?_ ?_
        rotate_left
        · intro w'
          go_simp
          with_reducible rfl
        rotate_left
        · simp only [Act.put, List.setIfInBounds_toArray, List.set_cons_zero, List.set_cons_succ, i64_w, i32_w]
          rfl
        refine pure_ (i := 22) (N := some 4) (v := ?_) (a' := ?_) #[true, true, true, true, true, true, true, true, true, true, true, true, true, true, true, true, true, true, true, true, true, true, true] rfl rfl (any_of HT_.out (by kernel_rfl)) (fun _ _ _ h => h) (Or.inl ⟨by rfl, ?_⟩) ?_ ?_
        rotate_left
        · intro w'
          go_simp
          with_reducible rfl
        rotate_left
        · simp only [Act.put, List.setIfInBounds_toArray, List.set_cons_zero, List.set_cons_succ, i64_w, i32_w]
          rfl
        refine done_ (done_of HT_.out (by kernel_rfl)) ?_
        try go_wp2
        go_ret
        exact ⟨by first | rfl | (simp [errW_none, errW_some] <;> rfl) | (simp [*, errW_none, errW_some] <;> rfl), by repeat (first | (with_reducible first | exact HB.out | apply below_alloc | apply pw_below_drewN | apply below_drew1 | refine below_set ?_ GE153.out | refine below_set ?_ GE154.out) | exact HB.out)⟩
    · replace c6 := Bool.eq_false_iff.mpr c6
      subst c6
      have H1 : (some false) = some r := by rw [if_neg (show ¬ (false = true) by decide)] at H; exact H
      clear H
      have H := H1
      clear H1
      obtain rfl := Option.some.inj H
      go_enter Tryd.func16, Tryd.ntmps16
      try go_wp2_with (first | ((with_reducible refine gate_dst (N := 2) rfl ?_); refine box_event ?hg (N := 2) ?hd (cs := #[.slice A0_0 l0_0.length c0_0, .int .i64 a0_1, .int .i64 a0_2]) (t := 26) ?hr ?_; (case hd => rfl); (case hg => rfl); (case hr => first | (go_simp; done) | (go_simp; rfl)); intro gb153 hg w25 hbox hb; have n0_ := Aside0.mk (below_step (by repeat (first | (with_reducible first | exact HB.out | apply below_alloc | apply pw_below_drewN | apply below_drew1) | exact HB.out)) hb); have n1_ := Aside0.mk (hbox); have n2_ := Aside0.mk ((by rw [hg]; exact (below_size (by repeat (first | (with_reducible first | exact HB.out | apply below_alloc | apply pw_below_drewN | apply below_drew1) | exact HB.out))) : w.heap.size ≤ gb153)); have n3_ := Aside0.mk ((by rw [hg]; exact (below_size (by repeat (first | (with_reducible first | exact HB.out | apply below_alloc | apply pw_below_drewN | apply below_drew1) | exact HB.out))) : w.heap.size ≤ gb153)); clear HB; have HB := n0_; have BK153 := n1_; have GW153 := n2_; have GE153 := n3_; clear n0_ n1_ n2_ n3_; clear hb hbox hg) | ((with_reducible refine gate_dst (N := 3) rfl ?_); refine box_event ?hg (N := 3) ?hd (cs := #[.slice A1_0 l1_0.length c1_0, .int .i64 a1_1, .int .i64 a1_2]) (t := 26) ?hr ?_; (case hd => rfl); (case hg => rfl); (case hr => first | (go_simp; done) | (go_simp; rfl)); intro gb154 hg w26 hbox hb; have n0_ := Aside0.mk (blk_below (g := gb153) (o := .cells #[.slice A0_0 l0_0.length c0_0, .int .i64 a0_1, .int .i64 a0_2] 26 (0, 0)) (by (with_reducible repeat (first | refine blk_drewN ?_ _ | refine blk_drew ?_ | refine blk_alloc ?_ _)); exact BK153.out) hb); have n1_ := Aside0.mk (below_step (by repeat (first | (with_reducible first | exact HB.out | apply below_alloc | apply pw_below_drewN | apply below_drew1 | refine below_set ?_ GE153.out) | exact HB.out)) hb); have n2_ := Aside0.mk (hbox); have n3_ := Aside0.mk ((by rw [hg]; exact (below_size (by repeat (first | (with_reducible first | exact HB.out | apply below_alloc | apply pw_below_drewN | apply below_drew1 | refine below_set ?_ GE153.out) | exact HB.out))) : w.heap.size ≤ gb154)); have n4_ := Aside0.mk ((by rw [hg]; exact (below_size (by repeat (first | (with_reducible first | exact HB.out | apply below_alloc | apply pw_below_drewN | apply below_drew1 | refine below_set ?_ GE153.out) | exact HB.out))) : w.heap.size ≤ gb154)); have n5_ := Aside0.mk ((by rw [hg]; exact Nat.ne_of_lt (blk_lt (g := gb153) (o := .cells #[.slice A0_0 l0_0.length c0_0, .int .i64 a0_1, .int .i64 a0_2] 26 (0, 0)) (by (with_reducible repeat (first | refine blk_drewN ?_ _ | refine blk_drew ?_ | refine blk_alloc ?_ _)); exact BK153.out)) : gb153 ≠ gb154)); have n6_ := Aside0.mk ((by rw [hg]; exact Nat.ne_of_gt (blk_lt (g := gb153) (o := .cells #[.slice A0_0 l0_0.length c0_0, .int .i64 a0_1, .int .i64 a0_2] 26 (0, 0)) (by (with_reducible repeat (first | refine blk_drewN ?_ _ | refine blk_drew ?_ | refine blk_alloc ?_ _)); exact BK153.out)) : gb154 ≠ gb153)); clear BK153; clear HB; have BK153 := n0_; have HB := n1_; have BK154 := n2_; have GW154 := n3_; have GE154 := n4_; have NB153_154 := n5_; have NB154_153 := n6_; clear n0_ n1_ n2_ n3_ n4_ n5_ n6_; clear hb hbox hg))
      have n0_ := Aside0.mk (blk_drew BK153.out)
      have n1_ := Aside0.mk (blk_drew BK154.out)
      have n2_ := Aside0.mk (below_drew1 HB.out)
      clear BK153
      clear BK154
      clear HB
      have BK153 := n0_
      have BK154 := n1_
      have HB := n2_
      clear n0_ n1_ n2_
      refine start_ (n := 23) (S := fun w' => w'.cell? ⟨gb153, 0, none⟩ = some (.slice A0_0 l0_0.length c0_0) ∧ w'.cell? ⟨gb153, 1, none⟩ = some (.int .i64 a0_1) ∧ w'.cell? ⟨gb153, 2, none⟩ = some (.int .i64 a0_2) ∧ w'.cell? ⟨gb154, 0, none⟩ = some (.slice A1_0 l1_0.length c1_0) ∧ w'.cell? ⟨gb154, 1, none⟩ = some (.int .i64 a1_1) ∧ w'.cell? ⟨gb154, 2, none⟩ = some (.int .i64 a1_2)) (ds := []) #[false, false, false, false, false, false, false, false, false, false, false, false, false, false, false, false, false, false, false, false, false, false, false] (by kernel_rfl) rfl rfl ⟨(blk_cell BK153.out 0).trans rfl, (blk_cell BK153.out 1).trans rfl, (blk_cell BK153.out 2).trans rfl, (blk_cell BK154.out 0).trans rfl, (blk_cell BK154.out 1).trans rfl, (blk_cell BK154.out 2).trans rfl⟩ (fun hHeld => ?_); refine with_tabW term_Same.tab1 term_Same.bits1 (fun HT_ HW_ => ?_)
      generalize w26.drew = w27 at BK153 BK154 HB hHeld ⊢
      refine take_ (i := 0) (N := some 5) (v := ?_) (a' := ?_) #[true, false, false, false, false, false, false, false, false, false, false, false, false, false, false, false, false, false, false, false, false, false, false] rfl rfl (take_ofW HT_.out HW_.out (by kernel_rfl)) (fun _ _ _ h => h) (Or.inl ⟨by rfl, ?_⟩) hHeld ?_ ?_
      rotate_left
      · rintro w' ⟨s0, s1, s2, s3, s4, s5⟩
        go_simp
        with_reducible rfl
      rotate_left
      · simp only [Act.put, List.setIfInBounds_toArray, List.set_cons_zero, List.set_cons_succ, i64_w, i32_w]
        rfl
      refine one_ (i := 1) (N := some 6) #[true, true, false, false, false, false, false, false, false, false, false, false, false, false, false, false, false, false, false, false, false, false, false] rfl rfl (one_of HT_.out (by kernel_rfl)) (by decide) (fun K hK => ?_)
      refine goes_ Tryd.func18 (by kernel_rfl) rfl #[.agg #[.slice A0_0 l0_0.length c0_0, .int .i64 a0_1, .int .i64 a0_2]] (by rfl) rfl rfl (by (try simp only [List.map_toArray, List.map_cons, List.map_nil]); first | done | rfl | (simp only [List.length_drop, List.length_take]; rfl)) ?_
      with_reducible refine (term_Right.calls _ _ l0_0 a0_1 a0_2 true _ ?side1 ?side2 A3.out).mono ?_
      (case side1 => repeat (first | exact (Kd.C_below HR0_0.out HB.out) | (with_reducible refine Kd.C_alloc ?_ _) | (with_reducible refine Kd.C_drewN ?_ _) | (with_reducible refine Kd.C_drew ?_)))
      (case side2 => exact HC0_0.out)
      rintro e w28 ⟨rfl, hb⟩
      refine ⟨_, rfl, ?_⟩
      have n0_ := Aside0.mk (blk_below (g := gb153) (o := .cells #[.slice A0_0 l0_0.length c0_0, .int .i64 a0_1, .int .i64 a0_2] 26 (0, 0)) (by (with_reducible repeat (first | refine blk_drewN ?_ _ | refine blk_drew ?_ | refine blk_alloc ?_ _)); exact BK153.out) hb)
      have n1_ := Aside0.mk (blk_below (g := gb154) (o := .cells #[.slice A1_0 l1_0.length c1_0, .int .i64 a1_1, .int .i64 a1_2] 26 (0, 0)) (by (with_reducible repeat (first | refine blk_drewN ?_ _ | refine blk_drew ?_ | refine blk_alloc ?_ _)); exact BK154.out) hb)
      have n2_ := Aside0.mk (below_step (by repeat (first | (with_reducible first | exact HB.out | apply below_alloc | apply pw_below_drewN | apply below_drew1 | refine below_set ?_ GE153.out | refine below_set ?_ GE154.out) | exact HB.out)) hb)
      clear BK153
      clear BK154
      clear HB
      have BK153 := n0_
      have BK154 := n1_
      have HB := n2_
      clear n0_ n1_ n2_
      (try clear hb)
      (try clear hb2)
      (try clear hk)
      (try clear hi)
      refine hK.out _ _ ⟨(blk_cell BK153.out 0).trans rfl, (blk_cell BK153.out 1).trans rfl, (blk_cell BK153.out 2).trans rfl, (blk_cell BK154.out 0).trans rfl, (blk_cell BK154.out 1).trans rfl, (blk_cell BK154.out 2).trans rfl⟩ (fun hHeld => ?_)
      clear hK K
      refine norm_ (a' := ?_) ?_ ?_
      rotate_left
      · show Act.put _ (some 6) _ = _
        simp only [Act.put, List.setIfInBounds_toArray, List.set_cons_zero, List.set_cons_succ, i64_w, i32_w]
        rfl
      refine pure_ (i := 2) (N := some 7) (v := ?_) (a' := ?_) #[true, true, true, false, false, false, false, false, false, false, false, false, false, false, false, false, false, false, false, false, false, false, false] rfl rfl (any_of HT_.out (by kernel_rfl)) (fun _ _ _ h => h) (Or.inl ⟨by rfl, ?_⟩) ?_ ?_
      rotate_left
      · intro w'
        go_simp
        with_reducible rfl
      rotate_left
      · simp only [Act.put, List.setIfInBounds_toArray, List.set_cons_zero, List.set_cons_succ, i64_w, i32_w]
        rfl
      refine take_ (i := 3) (N := some 8) (v := ?_) (a' := ?_) #[true, true, true, true, false, false, false, false, false, false, false, false, false, false, false, false, false, false, false, false, false, false, false] rfl rfl (take_ofW HT_.out HW_.out (by kernel_rfl)) (fun _ _ _ h => h) (Or.inl ⟨by rfl, ?_⟩) hHeld ?_ ?_
      rotate_left
      · rintro w' ⟨s0, s1, s2, s3, s4, s5⟩
        go_simp
        with_reducible rfl
      rotate_left
      · simp only [Act.put, List.setIfInBounds_toArray, List.set_cons_zero, List.set_cons_succ, i64_w, i32_w]
        rfl
      refine one_ (i := 4) (N := some 9) #[true, true, true, true, true, false, false, false, false, false, false, false, false, false, false, false, false, false, false, false, false, false, false] rfl rfl (one_of HT_.out (by kernel_rfl)) (by decide) (fun K hK => ?_)
      refine goes_ Tryd.func18 (by kernel_rfl) rfl #[.agg #[.slice A1_0 l1_0.length c1_0, .int .i64 a1_1, .int .i64 a1_2]] (by rfl) rfl rfl (by (try simp only [List.map_toArray, List.map_cons, List.map_nil]); first | done | rfl | (simp only [List.length_drop, List.length_take]; rfl)) ?_
      with_reducible refine (term_Right.calls _ _ l1_0 a1_1 a1_2 false _ ?side1 ?side2 A5.out).mono ?_
      (case side1 => repeat (first | exact (Kd.C_below HR1_0.out HB.out) | (with_reducible refine Kd.C_alloc ?_ _) | (with_reducible refine Kd.C_drewN ?_ _) | (with_reducible refine Kd.C_drew ?_)))
      (case side2 => exact HC1_0.out)
      rintro e w29 ⟨rfl, hb⟩
      refine ⟨_, rfl, ?_⟩
      have n0_ := Aside0.mk (blk_below (g := gb153) (o := .cells #[.slice A0_0 l0_0.length c0_0, .int .i64 a0_1, .int .i64 a0_2] 26 (0, 0)) (by (with_reducible repeat (first | refine blk_drewN ?_ _ | refine blk_drew ?_ | refine blk_alloc ?_ _)); exact BK153.out) hb)
      have n1_ := Aside0.mk (blk_below (g := gb154) (o := .cells #[.slice A1_0 l1_0.length c1_0, .int .i64 a1_1, .int .i64 a1_2] 26 (0, 0)) (by (with_reducible repeat (first | refine blk_drewN ?_ _ | refine blk_drew ?_ | refine blk_alloc ?_ _)); exact BK154.out) hb)
      have n2_ := Aside0.mk (below_step (by repeat (first | (with_reducible first | exact HB.out | apply below_alloc | apply pw_below_drewN | apply below_drew1 | refine below_set ?_ GE153.out | refine below_set ?_ GE154.out) | exact HB.out)) hb)
      clear BK153
      clear BK154
      clear HB
      have BK153 := n0_
      have BK154 := n1_
      have HB := n2_
      clear n0_ n1_ n2_
      (try clear hb)
      (try clear hb2)
      (try clear hk)
      (try clear hi)
      refine hK.out _ _ ⟨(blk_cell BK153.out 0).trans rfl, (blk_cell BK153.out 1).trans rfl, (blk_cell BK153.out 2).trans rfl, (blk_cell BK154.out 0).trans rfl, (blk_cell BK154.out 1).trans rfl, (blk_cell BK154.out 2).trans rfl⟩ (fun hHeld => ?_)
      clear hK K
      refine norm_ (a' := ?_) ?_ ?_
      rotate_left
      · show Act.put _ (some 9) _ = _
        simp only [Act.put, List.setIfInBounds_toArray, List.set_cons_zero, List.set_cons_succ, i64_w, i32_w]
        rfl
      refine pure_ (i := 5) (N := some 10) (v := ?_) (a' := ?_) #[true, true, true, true, true, true, false, false, false, false, false, false, false, false, false, false, false, false, false, false, false, false, false] rfl rfl (any_of HT_.out (by kernel_rfl)) (fun _ _ _ h => h) (Or.inl ⟨by rfl, ?_⟩) ?_ ?_
      rotate_left
      · intro w'
        go_simp
        with_reducible rfl
      rotate_left
      · simp only [Act.put, List.setIfInBounds_toArray, List.set_cons_zero, List.set_cons_succ, i64_w, i32_w]
        rfl
      refine pure_ (i := 6) (N := some 11) (v := ?_) (a' := ?_) #[true, true, true, true, true, true, true, false, false, false, false, false, false, false, false, false, false, false, false, false, false, false, false] rfl rfl (any_of HT_.out (by kernel_rfl)) (fun _ _ _ h => h) (Or.inl ⟨by rfl, ?_⟩) ?_ ?_
      rotate_left
      · intro w'
        go_simp
        with_reducible rfl
      rotate_left
      · simp only [Act.put, List.setIfInBounds_toArray, List.set_cons_zero, List.set_cons_succ, i64_w, i32_w]
        rfl
      refine pure_ (i := 7) (N := some 12) (v := undef) (a' := ?_) #[true, true, true, true, true, true, true, true, false, false, false, false, false, false, false, false, false, false, false, false, false, false, false] rfl rfl (any_of HT_.out (by kernel_rfl)) (fun _ _ _ h => h) (Or.inr ⟨by rfl, rfl⟩) ?_ ?_
      rotate_left
      · simp only [Act.put, List.setIfInBounds_toArray, List.set_cons_zero, List.set_cons_succ, i64_w, i32_w]
        rfl
      refine pure_ (i := 8) (N := some 13) (v := undef) (a' := ?_) #[true, true, true, true, true, true, true, true, true, false, false, false, false, false, false, false, false, false, false, false, false, false, false] rfl rfl (any_of HT_.out (by kernel_rfl)) (fun _ _ _ h => h) (Or.inr ⟨by rfl, rfl⟩) ?_ ?_
      rotate_left
      · simp only [Act.put, List.setIfInBounds_toArray, List.set_cons_zero, List.set_cons_succ, i64_w, i32_w]
        rfl
      refine pure_ (i := 9) (N := some 14) (v := undef) (a' := ?_) #[true, true, true, true, true, true, true, true, true, true, false, false, false, false, false, false, false, false, false, false, false, false, false] rfl rfl (any_of HT_.out (by kernel_rfl)) (fun _ _ _ h => h) (Or.inr ⟨by rfl, rfl⟩) ?_ ?_
      rotate_left
      · simp only [Act.put, List.setIfInBounds_toArray, List.set_cons_zero, List.set_cons_succ, i64_w, i32_w]
        rfl
      refine pure_ (i := 10) (N := some 15) (v := undef) (a' := ?_) #[true, true, true, true, true, true, true, true, true, true, true, false, false, false, false, false, false, false, false, false, false, false, false] rfl rfl (any_of HT_.out (by kernel_rfl)) (fun _ _ _ h => h) (Or.inr ⟨by rfl, rfl⟩) ?_ ?_
      rotate_left
      · simp only [Act.put, List.setIfInBounds_toArray, List.set_cons_zero, List.set_cons_succ, i64_w, i32_w]
        rfl
      refine pure_ (i := 11) (N := some 16) (v := undef) (a' := ?_) #[true, true, true, true, true, true, true, true, true, true, true, true, false, false, false, false, false, false, false, false, false, false, false] rfl rfl (any_of HT_.out (by kernel_rfl)) (fun _ _ _ h => h) (Or.inr ⟨by rfl, rfl⟩) ?_ ?_
      rotate_left
      · simp only [Act.put, List.setIfInBounds_toArray, List.set_cons_zero, List.set_cons_succ, i64_w, i32_w]
        rfl
      refine pure_ (i := 12) (N := some 17) (v := ?_) (a' := ?_) #[true, true, true, true, true, true, true, true, true, true, true, true, true, false, false, false, false, false, false, false, false, false, false] rfl rfl (any_of HT_.out (by kernel_rfl)) (fun _ _ _ h => h) (Or.inl ⟨by rfl, ?_⟩) ?_ ?_
      rotate_left
      · intro w'
        go_simp
        with_reducible rfl
      rotate_left
      · simp only [Act.put, List.setIfInBounds_toArray, List.set_cons_zero, List.set_cons_succ, i64_w, i32_w]
        rfl
      refine pure_ (i := 13) (N := some 18) (v := ?_) (a' := ?_) #[true, true, true, true, true, true, true, true, true, true, true, true, true, true, false, false, false, false, false, false, false, false, false] rfl rfl (any_of HT_.out (by kernel_rfl)) (fun _ _ _ h => h) (Or.inl ⟨by rfl, ?_⟩) ?_ ?_
      rotate_left
      · intro w'
        go_simp
        with_reducible rfl
      rotate_left
      · simp only [Act.put, List.setIfInBounds_toArray, List.set_cons_zero, List.set_cons_succ, i64_w, i32_w]
        rfl
      refine pure_ (i := 14) (N := some 19) (v := undef) (a' := ?_) #[true, true, true, true, true, true, true, true, true, true, true, true, true, true, true, false, false, false, false, false, false, false, false] rfl rfl (any_of HT_.out (by kernel_rfl)) (fun _ _ _ h => h) (Or.inr ⟨by rfl, rfl⟩) ?_ ?_
      rotate_left
      · simp only [Act.put, List.setIfInBounds_toArray, List.set_cons_zero, List.set_cons_succ, i64_w, i32_w]
        rfl
      refine pure_ (i := 15) (N := some 20) (v := undef) (a' := ?_) #[true, true, true, true, true, true, true, true, true, true, true, true, true, true, true, true, false, false, false, false, false, false, false] rfl rfl (any_of HT_.out (by kernel_rfl)) (fun _ _ _ h => h) (Or.inr ⟨by rfl, rfl⟩) ?_ ?_
      rotate_left
      · simp only [Act.put, List.setIfInBounds_toArray, List.set_cons_zero, List.set_cons_succ, i64_w, i32_w]
        rfl
      refine pure_ (i := 16) (N := some 21) (v := undef) (a' := ?_) #[true, true, true, true, true, true, true, true, true, true, true, true, true, true, true, true, true, false, false, false, false, false, false] rfl rfl (any_of HT_.out (by kernel_rfl)) (fun _ _ _ h => h) (Or.inr ⟨by rfl, rfl⟩) ?_ ?_
      rotate_left
      · simp only [Act.put, List.setIfInBounds_toArray, List.set_cons_zero, List.set_cons_succ, i64_w, i32_w]
        rfl
      refine pure_ (i := 17) (N := some 22) (v := undef) (a' := ?_) #[true, true, true, true, true, true, true, true, true, true, true, true, true, true, true, true, true, true, false, false, false, false, false] rfl rfl (any_of HT_.out (by kernel_rfl)) (fun _ _ _ h => h) (Or.inr ⟨by rfl, rfl⟩) ?_ ?_
      rotate_left
      · simp only [Act.put, List.setIfInBounds_toArray, List.set_cons_zero, List.set_cons_succ, i64_w, i32_w]
        rfl
      refine pure_ (i := 18) (N := some 23) (v := undef) (a' := ?_) #[true, true, true, true, true, true, true, true, true, true, true, true, true, true, true, true, true, true, true, false, false, false, false] rfl rfl (any_of HT_.out (by kernel_rfl)) (fun _ _ _ h => h) (Or.inr ⟨by rfl, rfl⟩) ?_ ?_
      rotate_left
      · simp only [Act.put, List.setIfInBounds_toArray, List.set_cons_zero, List.set_cons_succ, i64_w, i32_w]
        rfl
      refine pure_ (i := 19) (N := some 24) (v := undef) (a' := ?_) #[true, true, true, true, true, true, true, true, true, true, true, true, true, true, true, true, true, true, true, true, false, false, false] rfl rfl (any_of HT_.out (by kernel_rfl)) (fun _ _ _ h => h) (Or.inr ⟨by rfl, rfl⟩) ?_ ?_
      rotate_left
      · simp only [Act.put, List.setIfInBounds_toArray, List.set_cons_zero, List.set_cons_succ, i64_w, i32_w]
        rfl
      refine pure_ (i := 20) (N := some 25) (v := undef) (a' := ?_) #[true, true, true, true, true, true, true, true, true, true, true, true, true, true, true, true, true, true, true, true, true, false, false] rfl rfl (any_of HT_.out (by kernel_rfl)) (fun _ _ _ h => h) (Or.inr ⟨by rfl, rfl⟩) ?_ ?_
      rotate_left
      · simp only [Act.put, List.setIfInBounds_toArray, List.set_cons_zero, List.set_cons_succ, i64_w, i32_w]
        rfl
      refine pure_ (i := 21) (N := some 26) (v := ?_) (a' := ?_) #[true, true, true, true, true, true, true, true, true, true, true, true, true, true, true, true, true, true, true, true, true, true, false] rfl rfl (any_of HT_.out (by kernel_rfl)) (fun _ _ _ h => h) (Or.inl ⟨by rfl, ?_⟩) ?_ ?_
      rotate_left
      · intro w'
        go_simp
        with_reducible rfl
      rotate_left
      · simp only [Act.put, List.setIfInBounds_toArray, List.set_cons_zero, List.set_cons_succ, i64_w, i32_w]
        rfl
      refine pure_ (i := 22) (N := some 4) (v := ?_) (a' := ?_) #[true, true, true, true, true, true, true, true, true, true, true, true, true, true, true, true, true, true, true, true, true, true, true] rfl rfl (any_of HT_.out (by kernel_rfl)) (fun _ _ _ h => h) (Or.inl ⟨by rfl, ?_⟩) ?_ ?_
      rotate_left
      · intro w'
        go_simp
        with_reducible rfl
      rotate_left
      · simp only [Act.put, List.setIfInBounds_toArray, List.set_cons_zero, List.set_cons_succ, i64_w, i32_w]
        rfl
      refine done_ (done_of HT_.out (by kernel_rfl)) ?_
      try go_wp2
      go_ret
      exact ⟨by first | rfl | (simp [errW_none, errW_some] <;> rfl) | (simp [*, errW_none, errW_some] <;> rfl), by repeat (first | (with_reducible first | exact HB.out | apply below_alloc | apply pw_below_drewN | apply below_drew1 | refine below_set ?_ GE153.out | refine below_set ?_ GE154.out) | exact HB.out)⟩
  · replace c4 := Bool.eq_false_iff.mpr c4
    subst c4
    have H1 : (some false) = some r := by rw [if_neg (show ¬ (false = true) by decide)] at H; exact H
    clear H
    have H := H1
    clear H1
    obtain rfl := Option.some.inj H
    go_enter Tryd.func16, Tryd.ntmps16
    try go_wp2_with (first | ((with_reducible refine gate_dst (N := 2) rfl ?_); refine box_event ?hg (N := 2) ?hd (cs := #[.slice A0_0 l0_0.length c0_0, .int .i64 a0_1, .int .i64 a0_2]) (t := 26) ?hr ?_; (case hd => rfl); (case hg => rfl); (case hr => first | (go_simp; done) | (go_simp; rfl)); intro gb153 hg w30 hbox hb; have n0_ := Aside0.mk (below_step (by repeat (first | (with_reducible first | exact HB.out | apply below_alloc | apply pw_below_drewN | apply below_drew1) | exact HB.out)) hb); have n1_ := Aside0.mk (hbox); have n2_ := Aside0.mk ((by rw [hg]; exact (below_size (by repeat (first | (with_reducible first | exact HB.out | apply below_alloc | apply pw_below_drewN | apply below_drew1) | exact HB.out))) : w.heap.size ≤ gb153)); have n3_ := Aside0.mk ((by rw [hg]; exact (below_size (by repeat (first | (with_reducible first | exact HB.out | apply below_alloc | apply pw_below_drewN | apply below_drew1) | exact HB.out))) : w.heap.size ≤ gb153)); clear HB; have HB := n0_; have BK153 := n1_; have GW153 := n2_; have GE153 := n3_; clear n0_ n1_ n2_ n3_; clear hb hbox hg) | ((with_reducible refine gate_dst (N := 3) rfl ?_); refine box_event ?hg (N := 3) ?hd (cs := #[.slice A1_0 l1_0.length c1_0, .int .i64 a1_1, .int .i64 a1_2]) (t := 26) ?hr ?_; (case hd => rfl); (case hg => rfl); (case hr => first | (go_simp; done) | (go_simp; rfl)); intro gb154 hg w31 hbox hb; have n0_ := Aside0.mk (blk_below (g := gb153) (o := .cells #[.slice A0_0 l0_0.length c0_0, .int .i64 a0_1, .int .i64 a0_2] 26 (0, 0)) (by (with_reducible repeat (first | refine blk_drewN ?_ _ | refine blk_drew ?_ | refine blk_alloc ?_ _)); exact BK153.out) hb); have n1_ := Aside0.mk (below_step (by repeat (first | (with_reducible first | exact HB.out | apply below_alloc | apply pw_below_drewN | apply below_drew1 | refine below_set ?_ GE153.out) | exact HB.out)) hb); have n2_ := Aside0.mk (hbox); have n3_ := Aside0.mk ((by rw [hg]; exact (below_size (by repeat (first | (with_reducible first | exact HB.out | apply below_alloc | apply pw_below_drewN | apply below_drew1 | refine below_set ?_ GE153.out) | exact HB.out))) : w.heap.size ≤ gb154)); have n4_ := Aside0.mk ((by rw [hg]; exact (below_size (by repeat (first | (with_reducible first | exact HB.out | apply below_alloc | apply pw_below_drewN | apply below_drew1 | refine below_set ?_ GE153.out) | exact HB.out))) : w.heap.size ≤ gb154)); have n5_ := Aside0.mk ((by rw [hg]; exact Nat.ne_of_lt (blk_lt (g := gb153) (o := .cells #[.slice A0_0 l0_0.length c0_0, .int .i64 a0_1, .int .i64 a0_2] 26 (0, 0)) (by (with_reducible repeat (first | refine blk_drewN ?_ _ | refine blk_drew ?_ | refine blk_alloc ?_ _)); exact BK153.out)) : gb153 ≠ gb154)); have n6_ := Aside0.mk ((by rw [hg]; exact Nat.ne_of_gt (blk_lt (g := gb153) (o := .cells #[.slice A0_0 l0_0.length c0_0, .int .i64 a0_1, .int .i64 a0_2] 26 (0, 0)) (by (with_reducible repeat (first | refine blk_drewN ?_ _ | refine blk_drew ?_ | refine blk_alloc ?_ _)); exact BK153.out)) : gb154 ≠ gb153)); clear BK153; clear HB; have BK153 := n0_; have HB := n1_; have BK154 := n2_; have GW154 := n3_; have GE154 := n4_; have NB153_154 := n5_; have NB154_153 := n6_; clear n0_ n1_ n2_ n3_ n4_ n5_ n6_; clear hb hbox hg))
    have n0_ := Aside0.mk (blk_drew BK153.out)
    have n1_ := Aside0.mk (blk_drew BK154.out)
    have n2_ := Aside0.mk (below_drew1 HB.out)
    clear BK153
    clear BK154
    clear HB
    have BK153 := n0_
    have BK154 := n1_
    have HB := n2_
    clear n0_ n1_ n2_
    refine start_ (n := 23) (S := fun w' => w'.cell? ⟨gb153, 0, none⟩ = some (.slice A0_0 l0_0.length c0_0) ∧ w'.cell? ⟨gb153, 1, none⟩ = some (.int .i64 a0_1) ∧ w'.cell? ⟨gb153, 2, none⟩ = some (.int .i64 a0_2)) (ds := []) #[false, false, false, false, false, false, false, false, false, false, false, false, false, false, false, false, false, false, false, false, false, false, false] (by kernel_rfl) rfl rfl ⟨(blk_cell BK153.out 0).trans rfl, (blk_cell BK153.out 1).trans rfl, (blk_cell BK153.out 2).trans rfl⟩ (fun hHeld => ?_); refine with_tabW term_Same.tab1 term_Same.bits1 (fun HT_ HW_ => ?_)
    generalize w31.drew = w32 at BK153 BK154 HB hHeld ⊢
    refine take_ (i := 0) (N := some 5) (v := ?_) (a' := ?_) #[true, false, false, false, false, false, false, false, false, false, false, false, false, false, false, false, false, false, false, false, false, false, false] rfl rfl (take_ofW HT_.out HW_.out (by kernel_rfl)) (fun _ _ _ h => h) (Or.inl ⟨by rfl, ?_⟩) hHeld ?_ ?_
    rotate_left
    · rintro w' ⟨s0, s1, s2⟩
      go_simp
      with_reducible rfl
    rotate_left
    · simp only [Act.put, List.setIfInBounds_toArray, List.set_cons_zero, List.set_cons_succ, i64_w, i32_w]
      rfl
    refine one_ (i := 1) (N := some 6) #[true, true, false, false, false, false, false, false, false, false, false, false, false, false, false, false, false, false, false, false, false, false, false] rfl rfl (one_of HT_.out (by kernel_rfl)) (by decide) (fun K hK => ?_)
    refine goes_ Tryd.func18 (by kernel_rfl) rfl #[.agg #[.slice A0_0 l0_0.length c0_0, .int .i64 a0_1, .int .i64 a0_2]] (by rfl) rfl rfl (by (try simp only [List.map_toArray, List.map_cons, List.map_nil]); first | done | rfl | (simp only [List.length_drop, List.length_take]; rfl)) ?_
    with_reducible refine (term_Right.calls _ _ l0_0 a0_1 a0_2 false _ ?side1 ?side2 A3.out).mono ?_
    (case side1 => repeat (first | exact (Kd.C_below HR0_0.out HB.out) | (with_reducible refine Kd.C_alloc ?_ _) | (with_reducible refine Kd.C_drewN ?_ _) | (with_reducible refine Kd.C_drew ?_)))
    (case side2 => exact HC0_0.out)
    rintro e w33 ⟨rfl, hb⟩
    refine ⟨_, rfl, ?_⟩
    have n0_ := Aside0.mk (blk_below (g := gb153) (o := .cells #[.slice A0_0 l0_0.length c0_0, .int .i64 a0_1, .int .i64 a0_2] 26 (0, 0)) (by (with_reducible repeat (first | refine blk_drewN ?_ _ | refine blk_drew ?_ | refine blk_alloc ?_ _)); exact BK153.out) hb)
    have n1_ := Aside0.mk (blk_below (g := gb154) (o := .cells #[.slice A1_0 l1_0.length c1_0, .int .i64 a1_1, .int .i64 a1_2] 26 (0, 0)) (by (with_reducible repeat (first | refine blk_drewN ?_ _ | refine blk_drew ?_ | refine blk_alloc ?_ _)); exact BK154.out) hb)
    have n2_ := Aside0.mk (below_step (by repeat (first | (with_reducible first | exact HB.out | apply below_alloc | apply pw_below_drewN | apply below_drew1 | refine below_set ?_ GE153.out | refine below_set ?_ GE154.out) | exact HB.out)) hb)
    clear BK153
    clear BK154
    clear HB
    have BK153 := n0_
    have BK154 := n1_
    have HB := n2_
    clear n0_ n1_ n2_
    (try clear hb)
    (try clear hb2)
    (try clear hk)
    (try clear hi)
    refine hK.out _ _ ⟨(blk_cell BK153.out 0).trans rfl, (blk_cell BK153.out 1).trans rfl, (blk_cell BK153.out 2).trans rfl⟩ (fun hHeld => ?_)
    clear hK K
    refine norm_ (a' := ?_) ?_ ?_
    rotate_left
    · show Act.put _ (some 6) _ = _
      simp only [Act.put, List.setIfInBounds_toArray, List.set_cons_zero, List.set_cons_succ, i64_w, i32_w]
      rfl
    refine pure_ (i := 2) (N := some 7) (v := ?_) (a' := ?_) #[true, true, true, false, false, false, false, false, false, false, false, false, false, false, false, false, false, false, false, false, false, false, false] rfl rfl (any_of HT_.out (by kernel_rfl)) (fun _ _ _ h => h) (Or.inl ⟨by rfl, ?_⟩) ?_ ?_
    rotate_left
    · intro w'
      go_simp
      with_reducible rfl
    rotate_left
    · simp only [Act.put, List.setIfInBounds_toArray, List.set_cons_zero, List.set_cons_succ, i64_w, i32_w]
      rfl
    refine pure_ (i := 3) (N := some 8) (v := undef) (a' := ?_) #[true, true, true, true, false, false, false, false, false, false, false, false, false, false, false, false, false, false, false, false, false, false, false] rfl rfl (any_of HT_.out (by kernel_rfl)) (fun _ _ _ h => h) (Or.inr ⟨by rfl, rfl⟩) ?_ ?_
    rotate_left
    · simp only [Act.put, List.setIfInBounds_toArray, List.set_cons_zero, List.set_cons_succ, i64_w, i32_w]
      rfl
    refine pure_ (i := 4) (N := some 9) (v := undef) (a' := ?_) #[true, true, true, true, true, false, false, false, false, false, false, false, false, false, false, false, false, false, false, false, false, false, false] rfl rfl (any_of HT_.out (by kernel_rfl)) (fun _ _ _ h => h) (Or.inr ⟨by rfl, rfl⟩) ?_ ?_
    rotate_left
    · simp only [Act.put, List.setIfInBounds_toArray, List.set_cons_zero, List.set_cons_succ, i64_w, i32_w]
      rfl
    refine pure_ (i := 5) (N := some 10) (v := ?_) (a' := ?_) #[true, true, true, true, true, true, false, false, false, false, false, false, false, false, false, false, false, false, false, false, false, false, false] rfl rfl (any_of HT_.out (by kernel_rfl)) (fun _ _ _ h => h) (Or.inl ⟨by rfl, ?_⟩) ?_ ?_
    rotate_left
    · intro w'
      go_simp
      with_reducible rfl
    rotate_left
    · simp only [Act.put, List.setIfInBounds_toArray, List.set_cons_zero, List.set_cons_succ, i64_w, i32_w]
      rfl
    refine pure_ (i := 6) (N := some 11) (v := ?_) (a' := ?_) #[true, true, true, true, true, true, true, false, false, false, false, false, false, false, false, false, false, false, false, false, false, false, false] rfl rfl (any_of HT_.out (by kernel_rfl)) (fun _ _ _ h => h) (Or.inl ⟨by rfl, ?_⟩) ?_ ?_
    rotate_left
    · intro w'
      go_simp
      with_reducible rfl
    rotate_left
    · simp only [Act.put, List.setIfInBounds_toArray, List.set_cons_zero, List.set_cons_succ, i64_w, i32_w]
      rfl
    refine pure_ (i := 7) (N := some 12) (v := undef) (a' := ?_) #[true, true, true, true, true, true, true, true, false, false, false, false, false, false, false, false, false, false, false, false, false, false, false] rfl rfl (any_of HT_.out (by kernel_rfl)) (fun _ _ _ h => h) (Or.inr ⟨by rfl, rfl⟩) ?_ ?_
    rotate_left
    · simp only [Act.put, List.setIfInBounds_toArray, List.set_cons_zero, List.set_cons_succ, i64_w, i32_w]
      rfl
    refine pure_ (i := 8) (N := some 13) (v := undef) (a' := ?_) #[true, true, true, true, true, true, true, true, true, false, false, false, false, false, false, false, false, false, false, false, false, false, false] rfl rfl (any_of HT_.out (by kernel_rfl)) (fun _ _ _ h => h) (Or.inr ⟨by rfl, rfl⟩) ?_ ?_
    rotate_left
    · simp only [Act.put, List.setIfInBounds_toArray, List.set_cons_zero, List.set_cons_succ, i64_w, i32_w]
      rfl
    refine pure_ (i := 9) (N := some 14) (v := undef) (a' := ?_) #[true, true, true, true, true, true, true, true, true, true, false, false, false, false, false, false, false, false, false, false, false, false, false] rfl rfl (any_of HT_.out (by kernel_rfl)) (fun _ _ _ h => h) (Or.inr ⟨by rfl, rfl⟩) ?_ ?_
    rotate_left
    · simp only [Act.put, List.setIfInBounds_toArray, List.set_cons_zero, List.set_cons_succ, i64_w, i32_w]
      rfl
    refine pure_ (i := 10) (N := some 15) (v := undef) (a' := ?_) #[true, true, true, true, true, true, true, true, true, true, true, false, false, false, false, false, false, false, false, false, false, false, false] rfl rfl (any_of HT_.out (by kernel_rfl)) (fun _ _ _ h => h) (Or.inr ⟨by rfl, rfl⟩) ?_ ?_
    rotate_left
    · simp only [Act.put, List.setIfInBounds_toArray, List.set_cons_zero, List.set_cons_succ, i64_w, i32_w]
      rfl
    refine pure_ (i := 11) (N := some 16) (v := undef) (a' := ?_) #[true, true, true, true, true, true, true, true, true, true, true, true, false, false, false, false, false, false, false, false, false, false, false] rfl rfl (any_of HT_.out (by kernel_rfl)) (fun _ _ _ h => h) (Or.inr ⟨by rfl, rfl⟩) ?_ ?_
    rotate_left
    · simp only [Act.put, List.setIfInBounds_toArray, List.set_cons_zero, List.set_cons_succ, i64_w, i32_w]
      rfl
    refine pure_ (i := 12) (N := some 17) (v := ?_) (a' := ?_) #[true, true, true, true, true, true, true, true, true, true, true, true, true, false, false, false, false, false, false, false, false, false, false] rfl rfl (any_of HT_.out (by kernel_rfl)) (fun _ _ _ h => h) (Or.inl ⟨by rfl, ?_⟩) ?_ ?_
    rotate_left
    · intro w'
      go_simp
      with_reducible rfl
    rotate_left
    · simp only [Act.put, List.setIfInBounds_toArray, List.set_cons_zero, List.set_cons_succ, i64_w, i32_w]
      rfl
    refine pure_ (i := 13) (N := some 18) (v := ?_) (a' := ?_) #[true, true, true, true, true, true, true, true, true, true, true, true, true, true, false, false, false, false, false, false, false, false, false] rfl rfl (any_of HT_.out (by kernel_rfl)) (fun _ _ _ h => h) (Or.inl ⟨by rfl, ?_⟩) ?_ ?_
    rotate_left
    · intro w'
      go_simp
      with_reducible rfl
    rotate_left
    · simp only [Act.put, List.setIfInBounds_toArray, List.set_cons_zero, List.set_cons_succ, i64_w, i32_w]
      rfl
    refine pure_ (i := 14) (N := some 19) (v := undef) (a' := ?_) #[true, true, true, true, true, true, true, true, true, true, true, true, true, true, true, false, false, false, false, false, false, false, false] rfl rfl (any_of HT_.out (by kernel_rfl)) (fun _ _ _ h => h) (Or.inr ⟨by rfl, rfl⟩) ?_ ?_
    rotate_left
    · simp only [Act.put, List.setIfInBounds_toArray, List.set_cons_zero, List.set_cons_succ, i64_w, i32_w]
      rfl
    refine pure_ (i := 15) (N := some 20) (v := undef) (a' := ?_) #[true, true, true, true, true, true, true, true, true, true, true, true, true, true, true, true, false, false, false, false, false, false, false] rfl rfl (any_of HT_.out (by kernel_rfl)) (fun _ _ _ h => h) (Or.inr ⟨by rfl, rfl⟩) ?_ ?_
    rotate_left
    · simp only [Act.put, List.setIfInBounds_toArray, List.set_cons_zero, List.set_cons_succ, i64_w, i32_w]
      rfl
    refine pure_ (i := 16) (N := some 21) (v := undef) (a' := ?_) #[true, true, true, true, true, true, true, true, true, true, true, true, true, true, true, true, true, false, false, false, false, false, false] rfl rfl (any_of HT_.out (by kernel_rfl)) (fun _ _ _ h => h) (Or.inr ⟨by rfl, rfl⟩) ?_ ?_
    rotate_left
    · simp only [Act.put, List.setIfInBounds_toArray, List.set_cons_zero, List.set_cons_succ, i64_w, i32_w]
      rfl
    refine pure_ (i := 17) (N := some 22) (v := undef) (a' := ?_) #[true, true, true, true, true, true, true, true, true, true, true, true, true, true, true, true, true, true, false, false, false, false, false] rfl rfl (any_of HT_.out (by kernel_rfl)) (fun _ _ _ h => h) (Or.inr ⟨by rfl, rfl⟩) ?_ ?_
    rotate_left
    · simp only [Act.put, List.setIfInBounds_toArray, List.set_cons_zero, List.set_cons_succ, i64_w, i32_w]
      rfl
    refine pure_ (i := 18) (N := some 23) (v := undef) (a' := ?_) #[true, true, true, true, true, true, true, true, true, true, true, true, true, true, true, true, true, true, true, false, false, false, false] rfl rfl (any_of HT_.out (by kernel_rfl)) (fun _ _ _ h => h) (Or.inr ⟨by rfl, rfl⟩) ?_ ?_
    rotate_left
    · simp only [Act.put, List.setIfInBounds_toArray, List.set_cons_zero, List.set_cons_succ, i64_w, i32_w]
      rfl
    refine pure_ (i := 19) (N := some 24) (v := undef) (a' := ?_) #[true, true, true, true, true, true, true, true, true, true, true, true, true, true, true, true, true, true, true, true, false, false, false] rfl rfl (any_of HT_.out (by kernel_rfl)) (fun _ _ _ h => h) (Or.inr ⟨by rfl, rfl⟩) ?_ ?_
    rotate_left
    · simp only [Act.put, List.setIfInBounds_toArray, List.set_cons_zero, List.set_cons_succ, i64_w, i32_w]
      rfl
    refine pure_ (i := 20) (N := some 25) (v := undef) (a' := ?_) #[true, true, true, true, true, true, true, true, true, true, true, true, true, true, true, true, true, true, true, true, true, false, false] rfl rfl (any_of HT_.out (by kernel_rfl)) (fun _ _ _ h => h) (Or.inr ⟨by rfl, rfl⟩) ?_ ?_
    rotate_left
    · simp only [Act.put, List.setIfInBounds_toArray, List.set_cons_zero, List.set_cons_succ, i64_w, i32_w]
      rfl
    refine pure_ (i := 21) (N := some 26) (v := ?_) (a' := ?_) #[true, true, true, true, true, true, true, true, true, true, true, true, true, true, true, true, true, true, true, true, true, true, false] rfl rfl (any_of HT_.out (by kernel_rfl)) (fun _ _ _ h => h) (Or.inl ⟨by rfl, ?_⟩) ?_ ?_
    rotate_left
    · intro w'
      go_simp
      with_reducible rfl
    rotate_left
    · simp only [Act.put, List.setIfInBounds_toArray, List.set_cons_zero, List.set_cons_succ, i64_w, i32_w]
      rfl
    refine pure_ (i := 22) (N := some 4) (v := ?_) (a' := ?_) #[true, true, true, true, true, true, true, true, true, true, true, true, true, true, true, true, true, true, true, true, true, true, true] rfl rfl (any_of HT_.out (by kernel_rfl)) (fun _ _ _ h => h) (Or.inl ⟨by rfl, ?_⟩) ?_ ?_
    rotate_left
    · intro w'
      go_simp
      with_reducible rfl
    rotate_left
    · simp only [Act.put, List.setIfInBounds_toArray, List.set_cons_zero, List.set_cons_succ, i64_w, i32_w]
      rfl
    refine done_ (done_of HT_.out (by kernel_rfl)) ?_
    try go_wp2
    go_ret
    exact ⟨by first | rfl | (simp [errW_none, errW_some] <;> rfl) | (simp [*, errW_none, errW_some] <;> rfl), by repeat (first | (with_reducible first | exact HB.out | apply below_alloc | apply pw_below_drewN | apply below_drew1 | refine below_set ?_ GE153.out | refine below_set ?_ GE154.out) | exact HB.out)⟩
end Go.Proofs.YtijhnmbegceonaaDoor.PTerm
namespace Go.Proofs.YtijhnmbegceonaaDoor.PTerm
open Go.RowKit Go.Proofs.YtijhnmbegceonaaDoorW.PrintWords Go.Proofs.YtijhnmbegceonaaDoorW.PrintLast Go.Proofs.YtijhnmbegceonaaDoorW.PrintMore
attribute [local go_sem] max2_int min2_int max_two min_two max_three min_three max_four min_four
set_option linter.unusedVariables false
set_option linter.unusedSimpArgs false
def term_nought.f  : Option (Int × Int) := some (0, 1)
set_option maxHeartbeats 8000000 in
set_option maxRecDepth 100000 in
theorem term_nought.calls  (r1 : Int) (r2 : Int) (w : World) (h : term_nought.f  = some (r1, r2)) :
    Calls Tryd.prog 36 #[] w fun e w' => e = .returned (.agg #[.int .i64 r1, .int .i64 r2]) ∧ Below w.heap.size w w' := by
  have hu24 := Tryd.underlying24
  have HB := Aside0.mk (Below.refl w.heap.size w)
  have H : (some (0, 1)) = some (r1, r2) := h
  clear h
  simp only [Option.some.injEq, Prod.mk.injEq] at H
  obtain ⟨rfl, rfl⟩ := H
  go_enter Tryd.func36, Tryd.ntmps36
  go_wp2_with (first | ((with_reducible refine gate_dst (N := 0) rfl ?_); refine box_event ?hg (N := 0) ?hd (cs := #[.int .i64 0, .int .i64 0]) (t := 24) ?hr ?_; (case hd => rfl); (case hg => rfl); (case hr => first | (go_simp; done) | (go_simp; rfl)); intro gb168 hg w1 hbox hb; have n0_ := Aside0.mk (below_step (by repeat (first | (with_reducible first | exact HB.out | apply below_alloc | apply pw_below_drewN | apply below_drew1) | exact HB.out)) hb); have n1_ := Aside0.mk (hbox); have n2_ := Aside0.mk ((by rw [hg]; exact (below_size (by repeat (first | (with_reducible first | exact HB.out | apply below_alloc | apply pw_below_drewN | apply below_drew1) | exact HB.out))) : w.heap.size ≤ gb168)); have n3_ := Aside0.mk ((by rw [hg]; exact (below_size (by repeat (first | (with_reducible first | exact HB.out | apply below_alloc | apply pw_below_drewN | apply below_drew1) | exact HB.out))) : w.heap.size ≤ gb168)); clear HB; have HB := n0_; have BK168 := n1_; have GW168 := n2_; have GE168 := n3_; clear n0_ n1_ n2_ n3_; clear hb hbox hg; have hcz2_0 : w1.cell? ⟨gb168, 0, none⟩ = some (.int .i64 0) := (blk_cell BK168.out 0).trans rfl; have hcz2_1 : w1.cell? ⟨gb168, 1, none⟩ = some (.int .i64 0) := (blk_cell BK168.out 1).trans rfl; have hfz2_0 := blk_frozen BK168.out 0; have hfz2_1 := blk_frozen BK168.out 1))
  refine bodyPost_ret (results_cell_row rfl _ _ gb168 24 #[.int .i64 0, .int .i64 1] (0, 0) _ rfl (by (with_reducible repeat (first | refine blk_drewN ?_ _ | refine blk_drew ?_ | refine blk_alloc ?_ _)); refine blk_put (cs := #[.int .i64 0, .int .i64 0]) ?_ 1 _ rfl; (with_reducible repeat (first | refine blk_drewN ?_ _ | refine blk_drew ?_ | refine blk_alloc ?_ _)); refine blk_put (cs := #[.int .i64 0, .int .i64 0]) ?_ 0 _ rfl; (with_reducible repeat (first | refine blk_drewN ?_ _ | refine blk_drew ?_ | refine blk_alloc ?_ _)); exact BK168.out) Tryd.underlying24 rfl (by kernel_rfl)) rfl ?_
  exact ⟨by first | rfl | (simp [errW_none, errW_some] <;> rfl) | (simp [*, errW_none, errW_some] <;> rfl), by repeat (first | (with_reducible first | exact HB.out | apply below_alloc | apply pw_below_drewN | apply below_drew1 | refine below_set ?_ GE168.out) | exact HB.out)⟩
end Go.Proofs.YtijhnmbegceonaaDoor.PTerm
namespace Go.Proofs.YtijhnmbegceonaaDoor.PTerm
open Go.RowKit Go.Proofs.YtijhnmbegceonaaDoorW.PrintWords Go.Proofs.YtijhnmbegceonaaDoorW.PrintLast Go.Proofs.YtijhnmbegceonaaDoorW.PrintMore
attribute [local go_sem] max2_int min2_int max_two min_two max_three min_three max_four min_four
set_option linter.unusedVariables false
set_option linter.unusedSimpArgs false
def rat_Add.f (a0_0 : Int) (a0_1 : Int) (a1_0 : Int) (a1_1 : Int) : Option (Int × Int × Int) := if (BallQ.In64 a0_0 ∧ BallQ.In64 a0_1) ∧ BallQ.In64 a1_0 ∧ BallQ.In64 a1_1 then some (PRat.addS a0_0 a0_1 a1_0 a1_1) else none
theorem rat_Add.calls (a0_0 : Int) (a0_1 : Int) (a1_0 : Int) (a1_1 : Int) (r1 : Int) (r2 : Int) (r3 : Int) (w : World) (h : rat_Add.f a0_0 a0_1 a1_0 a1_1 = some (r1, r2, r3)) :
    Calls Tryd.prog 42 #[.agg #[.int .i64 a0_0, .int .i64 a0_1], .agg #[.int .i64 a1_0, .int .i64 a1_1]] w fun e w' => e = .returned (.tuple #[.agg #[.int .i64 r1, .int .i64 r2], .int .i64 r3]) ∧ Below w.heap.size w w' := by
  unfold rat_Add.f at h
  split at h
  · rename_i hc
    have e := Option.some.inj h
    obtain ⟨k, hk⟩ := Ev.rounds (PRat.add_ev a0_0 a0_1 a1_0 a1_1 hc.1.1 hc.1.2 hc.2.1 hc.2.2)
    rw [e] at hk
    exact PRat.rat_Add.calls k a0_0 a0_1 a1_0 a1_1 r1 r2 r3 w hk
  · cases h
def term_At.j0 : Nat → Int → Bool → List (S24) → Int → Int → Option (Int × Int)
  | 0, _, _, _, _, _ => none
  | k + 1, x1, x13, x200000, x200001, x200002 => if x13 = true then ((term_nought.f).bind fun bt201 => (some (bt201.1, bt201.2))) else (if 0 ≤ x1 then (if x1 < (x200000.length : Int) then (some ((rd_T24 x200000 x1).f0, (rd_T24 x200000 x1).f1)) else (none)) else (none))
def term_At.f (k : Nat) (l0_0 : List (S24)) (a0_1 : Int) (a0_2 : Int) (a1 : Int) : Option (Int × Int) := if a1 < 0 then (term_At.j0 k a1 true l0_0 a0_1 a0_2) else (term_At.j0 k a1 (decide (a1 ≥ (l0_0.length : Int))) l0_0 a0_1 a0_2)
set_option maxHeartbeats 8000000 in
set_option maxRecDepth 100000 in
theorem term_At.calls (k : Nat) (A0_0 : Option Addr) (c0_0 : Nat) (l0_0 : List (S24)) (a0_1 : Int) (a0_2 : Int) (a1 : Int) (r1 : Int) (r2 : Int) (w : World) (hr0_0 : Kd.C k24 w A0_0 l0_0.length l0_0) (hc0_0 : l0_0.length ≤ c0_0) (h : term_At.f k l0_0 a0_1 a0_2 a1 = some (r1, r2)) :
    Calls Tryd.prog 22 #[.agg #[.slice A0_0 l0_0.length c0_0, .int .i64 a0_1, .int .i64 a0_2], .int .i64 a1] w fun e w' => e = .returned (.agg #[.int .i64 r1, .int .i64 r2]) ∧ Below w.heap.size w w' := by
  have hu26 := Tryd.underlying26
  have hu24 := Tryd.underlying24
  have HR0_0 := Aside0.mk hr0_0
  have HC0_0 := Aside0.mk hc0_0
  clear hr0_0 hc0_0
  have HB := Aside0.mk (Below.refl w.heap.size w)
  have H : (if a1 < 0 then (term_At.j0 k a1 true l0_0 a0_1 a0_2) else (term_At.j0 k a1 (decide (a1 ≥ (l0_0.length : Int))) l0_0 a0_1 a0_2)) = some (r1, r2) := h
  clear h
  have HC3 := Aside0.mk H
  clear H
  go_enter Tryd.func22, Tryd.ntmps22
  go_upto_region 1 with (first | ((with_reducible refine gate_dst (N := 2) rfl ?_); (try (refine gate_guard (by rfl) ?_; dsimp only)); refine box_event ?hg (N := 2) ?hd (cs := #[.slice A0_0 l0_0.length c0_0, .int .i64 a0_1, .int .i64 a0_2]) (t := 26) ?hr ?_; (case hd => rfl); (case hg => rfl); (case hr => first | (go_simp; done) | (go_simp; rfl)); intro gb199 hg w4 hbox hb; have n0_ := Aside0.mk (below_step (by repeat (first | (with_reducible first | exact HB.out | apply below_alloc | apply pw_below_drewN | apply below_drew1) | exact HB.out)) hb); have n1_ := Aside0.mk (hbox); have n2_ := Aside0.mk ((by rw [hg]; exact (below_size (by repeat (first | (with_reducible first | exact HB.out | apply below_alloc | apply pw_below_drewN | apply below_drew1) | exact HB.out))) : w.heap.size ≤ gb199)); have n3_ := Aside0.mk ((by rw [hg]; exact (below_size (by repeat (first | (with_reducible first | exact HB.out | apply below_alloc | apply pw_below_drewN | apply below_drew1) | exact HB.out))) : w.heap.size ≤ gb199)); clear HB; have HB := n0_; have BK199 := n1_; have GW199 := n2_; have GE199 := n3_; clear n0_ n1_ n2_ n3_; clear hb hbox hg) | ((with_reducible refine gate_dst (N := 4) rfl ?_); (try (refine gate_guard (by rfl) ?_; dsimp only)); refine box_event ?hg (N := 4) ?hd (cs := #[.int .i64 0, .int .i64 0]) (t := 24) ?hr ?_; (case hd => rfl); (case hg => rfl); (case hr => first | (go_simp; done) | (go_simp; rfl)); intro gb200 hg w5 hbox hb; have n0_ := Aside0.mk (blk_below (g := gb199) (o := .cells #[.slice A0_0 l0_0.length c0_0, .int .i64 a0_1, .int .i64 a0_2] 26 (0, 0)) (by (with_reducible repeat (first | refine blk_drewN ?_ _ | refine blk_drew ?_ | refine blk_alloc ?_ _)); exact BK199.out) hb); have n1_ := Aside0.mk (below_step (by repeat (first | (with_reducible first | exact HB.out | apply below_alloc | apply pw_below_drewN | apply below_drew1 | refine below_set ?_ GE199.out) | exact HB.out)) hb); have n2_ := Aside0.mk (hbox); have n3_ := Aside0.mk ((by rw [hg]; exact (below_size (by repeat (first | (with_reducible first | exact HB.out | apply below_alloc | apply pw_below_drewN | apply below_drew1 | refine below_set ?_ GE199.out) | exact HB.out))) : w.heap.size ≤ gb200)); have n4_ := Aside0.mk ((by rw [hg]; exact (below_size (by repeat (first | (with_reducible first | exact HB.out | apply below_alloc | apply pw_below_drewN | apply below_drew1 | refine below_set ?_ GE199.out) | exact HB.out))) : w.heap.size ≤ gb200)); have n5_ := Aside0.mk ((by rw [hg]; exact Nat.ne_of_lt (blk_lt (g := gb199) (o := .cells #[.slice A0_0 l0_0.length c0_0, .int .i64 a0_1, .int .i64 a0_2] 26 (0, 0)) (by (with_reducible repeat (first | refine blk_drewN ?_ _ | refine blk_drew ?_ | refine blk_alloc ?_ _)); exact BK199.out)) : gb199 ≠ gb200)); have n6_ := Aside0.mk ((by rw [hg]; exact Nat.ne_of_gt (blk_lt (g := gb199) (o := .cells #[.slice A0_0 l0_0.length c0_0, .int .i64 a0_1, .int .i64 a0_2] 26 (0, 0)) (by (with_reducible repeat (first | refine blk_drewN ?_ _ | refine blk_drew ?_ | refine blk_alloc ?_ _)); exact BK199.out)) : gb200 ≠ gb199)); clear BK199; clear HB; have BK199 := n0_; have HB := n1_; have BK200 := n2_; have GW200 := n3_; have GE200 := n4_; have NB199_200 := n5_; have NB200_199 := n6_; clear n0_ n1_ n2_ n3_ n4_ n5_ n6_; clear hb hbox hg))
  (try simp only [Act.put, List.setIfInBounds_toArray, List.set_cons_zero, List.set_cons_succ])
  go_cut [13] (fun v13 wc => ∃ (kq : Nat) (x13_2 : Bool), v13 = .bool x13_2 ∧ Aside0 (term_At.j0 kq a1 x13_2 l0_0 a0_1 a0_2 = some (r1, r2)) ∧ Aside0 (kq ≤ k) ∧ Aside0 (wc.heap[gb199]? = some (.cells #[(.slice A0_0 l0_0.length c0_0), .int .i64 a0_1, .int .i64 a0_2] 26 (0, 0))) ∧ Aside0 (wc.heap[gb200]? = some (.cells #[.int .i64 0, .int .i64 0] 24 (0, 0))) ∧ Aside0 (Below w.heap.size w wc))
  case first =>
    have H := HC3.out
    clear HC3
    by_cases c6 : a1 < 0
    · rw [if_pos c6] at H
      have c6b0 : decide (a1 < 0) = true := decide_eq_true c6
      clear c6
      (first | rw [c6b0] | (simp only [i64_w, i32_w]; rw [c6b0]) | skip)
      have H' := Aside0.mk H
      clear H
      go_wp2
      go_meet
      case rel => exact ⟨_, (true), (by first | rfl | (simp; done) | (simp [*]; done)), H', ⟨by first | omega | exact Nat.le_refl _⟩, ⟨by (with_reducible repeat (first | refine blk_drewN ?_ _ | refine blk_drew ?_ | refine blk_alloc ?_ _)); exact BK199.out⟩, ⟨by (with_reducible repeat (first | refine blk_drewN ?_ _ | refine blk_drew ?_ | refine blk_alloc ?_ _)); exact BK200.out⟩, ⟨by repeat (first | (with_reducible first | exact HB.out | apply below_alloc | apply pw_below_drewN | apply below_drew1 | refine below_set ?_ GE199.out | refine below_set ?_ GE200.out) | exact HB.out)⟩⟩
    · rw [if_neg c6] at H
      have c6b0 : decide (a1 < 0) = false := decide_eq_false c6
      clear c6
      (first | rw [c6b0] | (simp only [i64_w, i32_w]; rw [c6b0]) | skip)
      have H' := Aside0.mk H
      clear H
      have hnb7 := NB199_200.out
      have hnc7 := NB200_199.out
      have hcz8_0 : w5.cell? ⟨gb199, 0, none⟩ = some (.slice A0_0 l0_0.length c0_0) := (blk_cell BK199.out 0).trans rfl
      have hcz8_1 : w5.cell? ⟨gb199, 1, none⟩ = some (.int .i64 a0_1) := (blk_cell BK199.out 1).trans rfl
      have hcz8_2 : w5.cell? ⟨gb199, 2, none⟩ = some (.int .i64 a0_2) := (blk_cell BK199.out 2).trans rfl
      have hfz8_0 := blk_frozen BK199.out 0
      have hfz8_1 := blk_frozen BK199.out 1
      have hfz8_2 := blk_frozen BK199.out 2
      go_wp2
      go_meet
      case rel => exact ⟨_, (decide (a1 ≥ (l0_0.length : Int))), (by first | rfl | (simp; done) | (simp [*]; done)), H', ⟨by first | omega | exact Nat.le_refl _⟩, ⟨by (with_reducible repeat (first | refine blk_drewN ?_ _ | refine blk_drew ?_ | refine blk_alloc ?_ _)); exact BK199.out⟩, ⟨by (with_reducible repeat (first | refine blk_drewN ?_ _ | refine blk_drew ?_ | refine blk_alloc ?_ _)); exact BK200.out⟩, ⟨by repeat (first | (with_reducible first | exact HB.out | apply below_alloc | apply pw_below_drewN | apply below_drew1 | refine below_set ?_ GE199.out | refine below_set ?_ GE200.out) | exact HB.out)⟩⟩
  case rest =>
    clear HC3
    try clear c2
    try clear p2
    try clear c6
    try clear c6b0
    try clear c7
    try clear hcz8_0
    try clear hcz8_1
    try clear hcz8_2
    try clear hfz8_0
    try clear hfz8_1
    try clear hfz8_2
    obtain ⟨kq, x13_2, rfl, HA, HJ2, BK199, BK200, HB⟩ := hcut
    cases kq with
    | zero => exact absurd HA.out (by simp [term_At.j0])
    | succ kj2 =>
      have H := HA.out
      clear HA
      simp only [term_At.j0] at H
      by_cases c9 : x13_2 = true
      · subst c9
        have H1 : ((term_nought.f).bind fun bt201 => (some (bt201.1, bt201.2))) = some (r1, r2) := by rw [if_pos rfl] at H; exact H
        clear H
        have H := H1
        clear H1
        replace H := Option.bind_eq_some_iff.mp H
        obtain ⟨⟨t201, t202⟩, A100, H⟩ := H
        replace H : (some (t201, t202)) = some (r1, r2) := H
        have A10 := Aside0.mk A100
        clear A100
        simp only [Option.some.injEq, Prod.mk.injEq] at H
        obtain ⟨rfl, rfl⟩ := H
        go_wp2_with (first | ((with_reducible refine gate_callee (f := 36) rfl ?_); refine goesL_ (some 14) rfl rfl Tryd.func36 (by kernel_rfl) rfl #[] rfl (by (try simp only [List.map_toArray, List.map_cons, List.map_nil]); first | done | rfl | (simp only [List.length_drop, List.length_take]; rfl)) ?_; (with_reducible refine (term_nought.calls  t201 t202 _ A10.out).mono ?_); rintro e w11 ⟨rfl, hb⟩; refine ⟨_, rfl, ?_⟩; have n0_ := Aside0.mk (blk_below (g := gb199) (o := .cells #[.slice A0_0 l0_0.length c0_0, .int .i64 a0_1, .int .i64 a0_2] 26 (0, 0)) (by (with_reducible repeat (first | refine blk_drewN ?_ _ | refine blk_drew ?_ | refine blk_alloc ?_ _)); exact BK199.out) hb); have n1_ := Aside0.mk (blk_below (g := gb200) (o := .cells #[.int .i64 0, .int .i64 0] 24 (0, 0)) (by (with_reducible repeat (first | refine blk_drewN ?_ _ | refine blk_drew ?_ | refine blk_alloc ?_ _)); exact BK200.out) hb); have n2_ := Aside0.mk (below_step (by repeat (first | (with_reducible first | exact HB.out | apply below_alloc | apply pw_below_drewN | apply below_drew1 | refine below_set ?_ GE199.out | refine below_set ?_ GE200.out) | exact HB.out)) hb); clear BK199; clear BK200; clear HB; have BK199 := n0_; have BK200 := n1_; have HB := n2_; clear n0_ n1_ n2_; (try clear hb); (try clear hb2); (try clear hk); (try clear hi); have hnb12 := NB200_199.out; have hnc12 := NB199_200.out; have hcz13_0 : w11.cell? ⟨gb200, 0, none⟩ = some (.int .i64 0) := (blk_cell BK200.out 0).trans rfl; have hcz13_1 : w11.cell? ⟨gb200, 1, none⟩ = some (.int .i64 0) := (blk_cell BK200.out 1).trans rfl; have hfz13_0 := blk_frozen BK200.out 0; have hfz13_1 := blk_frozen BK200.out 1))
        refine bodyPost_ret (results_cell_row rfl _ _ gb200 24 #[.int .i64 t201, .int .i64 t202] (0, 0) _ rfl (by (with_reducible repeat (first | refine blk_drewN ?_ _ | refine blk_drew ?_ | refine blk_alloc ?_ _)); refine blk_put (cs := #[.int .i64 t201, .int .i64 0]) ?_ 1 _ rfl; (with_reducible repeat (first | refine blk_drewN ?_ _ | refine blk_drew ?_ | refine blk_alloc ?_ _)); refine blk_put (cs := #[.int .i64 0, .int .i64 0]) ?_ 0 _ rfl; (with_reducible repeat (first | refine blk_drewN ?_ _ | refine blk_drew ?_ | refine blk_alloc ?_ _)); exact BK200.out) Tryd.underlying24 rfl (by kernel_rfl)) rfl ?_
        exact ⟨by first | rfl | (simp [errW_none, errW_some] <;> rfl) | (simp [*, errW_none, errW_some] <;> rfl), by repeat (first | (with_reducible first | exact HB.out | apply below_alloc | apply pw_below_drewN | apply below_drew1 | refine below_set ?_ GE199.out | refine below_set ?_ GE200.out) | exact HB.out)⟩
      · replace c9 := Bool.eq_false_iff.mpr c9
        subst c9
        have H1 : (if 0 ≤ a1 then (if a1 < (l0_0.length : Int) then (some ((rd_T24 l0_0 a1).f0, (rd_T24 l0_0 a1).f1)) else (none)) else (none)) = some (r1, r2) := by rw [if_neg (show ¬ (false = true) by decide)] at H; exact H
        clear H
        have H := H1
        clear H1
        by_cases c14 : 0 ≤ a1
        · rw [if_pos c14] at H
          have c14b0 : decide (0 ≤ a1) = true := decide_eq_true c14
          clear c14
          by_cases c15 : a1 < (l0_0.length : Int)
          · rw [if_pos c15] at H
            have c15b0 : decide (a1 < (l0_0.length : Int)) = true := decide_eq_true c15
            clear c15
            simp only [Option.some.injEq, Prod.mk.injEq] at H
            obtain ⟨rfl, rfl⟩ := H
            have hnb16 := NB199_200.out
            have hnc16 := NB200_199.out
            have hcz17_0 : wc.cell? ⟨gb199, 0, none⟩ = some (.slice A0_0 l0_0.length c0_0) := (blk_cell BK199.out 0).trans rfl
            have hcz17_1 : wc.cell? ⟨gb199, 1, none⟩ = some (.int .i64 a0_1) := (blk_cell BK199.out 1).trans rfl
            have hcz17_2 : wc.cell? ⟨gb199, 2, none⟩ = some (.int .i64 a0_2) := (blk_cell BK199.out 2).trans rfl
            have hfz17_0 := blk_frozen BK199.out 0
            have hfz17_1 := blk_frozen BK199.out 1
            have hfz17_2 := blk_frozen BK199.out 2
            have p203 : 0 ≤ (a1 : Int) := of_decide_eq_true (by first | (with_reducible assumption) | assumption)
            have q203 : a1 < (l0_0.length : Int) := of_decide_eq_true (by first | (with_reducible assumption) | assumption)
            obtain ⟨ad203, e203, hx203_0, hx203_1⟩ := at_T24 HR0_0.out a1 p203 q203
            cases e203
            replace hx203_0 := (HB.out.cell (World.block_lt_of_cell? w _ hx203_0)).trans hx203_0
            replace hx203_1 := (HB.out.cell (World.block_lt_of_cell? w _ hx203_1)).trans hx203_1
            replace p203 := eq_true p203
            replace q203 := eq_true q203
            have hcz18_0 : wc.cell? ⟨gb200, 0, none⟩ = some (.int .i64 0) := (blk_cell BK200.out 0).trans rfl
            have hcz18_1 : wc.cell? ⟨gb200, 1, none⟩ = some (.int .i64 0) := (blk_cell BK200.out 1).trans rfl
            have hfz18_0 := blk_frozen BK200.out 0
            have hfz18_1 := blk_frozen BK200.out 1
            go_wp2
            refine bodyPost_ret (results_cell_row rfl _ _ gb200 24 #[.int .i64 ((rd_T24 l0_0 a1).f0), .int .i64 ((rd_T24 l0_0 a1).f1)] (0, 0) _ rfl (by (with_reducible repeat (first | refine blk_drewN ?_ _ | refine blk_drew ?_ | refine blk_alloc ?_ _)); refine blk_put (cs := #[.int .i64 ((rd_T24 l0_0 a1).f0), .int .i64 0]) ?_ 1 _ rfl; (with_reducible repeat (first | refine blk_drewN ?_ _ | refine blk_drew ?_ | refine blk_alloc ?_ _)); refine blk_put (cs := #[.int .i64 0, .int .i64 0]) ?_ 0 _ rfl; (with_reducible repeat (first | refine blk_drewN ?_ _ | refine blk_drew ?_ | refine blk_alloc ?_ _)); exact BK200.out) Tryd.underlying24 rfl (by kernel_rfl)) rfl ?_
            exact ⟨by first | rfl | (simp [errW_none, errW_some] <;> rfl) | (simp [*, errW_none, errW_some] <;> rfl), by repeat (first | (with_reducible first | exact HB.out | apply below_alloc | apply pw_below_drewN | apply below_drew1 | refine below_set ?_ GE199.out | refine below_set ?_ GE200.out) | exact HB.out)⟩
          · rw [if_neg c15] at H
            exact absurd H (by simp)
        · rw [if_neg c14] at H
          exact absurd H (by simp)
def term_one.f (k : Nat) (l0_0 : List (S24)) (a0_1 : Int) (a0_2 : Int) (a1 : Int) : Option (Int × Int) := if a1 < 0 then (some (a0_1, a0_2)) else ((term_At.f k l0_0 a0_1 a0_2 a1).bind fun bt206 => (some (bt206.1, bt206.2)))
set_option maxHeartbeats 8000000 in
set_option maxRecDepth 100000 in
theorem term_one.calls (k : Nat) (A0_0 : Option Addr) (c0_0 : Nat) (l0_0 : List (S24)) (a0_1 : Int) (a0_2 : Int) (a1 : Int) (r1 : Int) (r2 : Int) (w : World) (hr0_0 : Kd.C k24 w A0_0 l0_0.length l0_0) (hc0_0 : l0_0.length ≤ c0_0) (h : term_one.f k l0_0 a0_1 a0_2 a1 = some (r1, r2)) :
    Calls Tryd.prog 43 #[.agg #[.slice A0_0 l0_0.length c0_0, .int .i64 a0_1, .int .i64 a0_2], .int .i64 a1] w fun e w' => e = .returned (.agg #[.int .i64 r1, .int .i64 r2]) ∧ Below w.heap.size w w' := by
  have hu26 := Tryd.underlying26
  have hu24 := Tryd.underlying24
  have HR0_0 := Aside0.mk hr0_0
  have HC0_0 := Aside0.mk hc0_0
  clear hr0_0 hc0_0
  have HB := Aside0.mk (Below.refl w.heap.size w)
  have H : (if a1 < 0 then (some (a0_1, a0_2)) else ((term_At.f k l0_0 a0_1 a0_2 a1).bind fun bt206 => (some (bt206.1, bt206.2)))) = some (r1, r2) := h
  clear h
  by_cases c3 : a1 < 0
  · rw [if_pos c3] at H
    have c3b0 : decide (a1 < 0) = true := decide_eq_true c3
    clear c3
    simp only [Option.some.injEq, Prod.mk.injEq] at H
    obtain ⟨rfl, rfl⟩ := H
    go_enter Tryd.func43, Tryd.ntmps43
    go_wp2_with (first | ((with_reducible refine gate_dst (N := 2) rfl ?_); refine box_event ?hg (N := 2) ?hd (cs := #[.slice A0_0 l0_0.length c0_0, .int .i64 a0_1, .int .i64 a0_2]) (t := 26) ?hr ?_; (case hd => rfl); (case hg => rfl); (case hr => first | (go_simp; done) | (go_simp; rfl)); intro gb204 hg w4 hbox hb; have n0_ := Aside0.mk (below_step (by repeat (first | (with_reducible first | exact HB.out | apply below_alloc | apply pw_below_drewN | apply below_drew1) | exact HB.out)) hb); have n1_ := Aside0.mk (hbox); have n2_ := Aside0.mk ((by rw [hg]; exact (below_size (by repeat (first | (with_reducible first | exact HB.out | apply below_alloc | apply pw_below_drewN | apply below_drew1) | exact HB.out))) : w.heap.size ≤ gb204)); have n3_ := Aside0.mk ((by rw [hg]; exact (below_size (by repeat (first | (with_reducible first | exact HB.out | apply below_alloc | apply pw_below_drewN | apply below_drew1) | exact HB.out))) : w.heap.size ≤ gb204)); clear HB; have HB := n0_; have BK204 := n1_; have GW204 := n2_; have GE204 := n3_; clear n0_ n1_ n2_ n3_; clear hb hbox hg) | ((with_reducible refine gate_dst (N := 4) rfl ?_); refine box_event ?hg (N := 4) ?hd (cs := #[.int .i64 0, .int .i64 0]) (t := 24) ?hr ?_; (case hd => rfl); (case hg => rfl); (case hr => first | (go_simp; done) | (go_simp; rfl)); intro gb205 hg w5 hbox hb; have n0_ := Aside0.mk (blk_below (g := gb204) (o := .cells #[.slice A0_0 l0_0.length c0_0, .int .i64 a0_1, .int .i64 a0_2] 26 (0, 0)) (by (with_reducible repeat (first | refine blk_drewN ?_ _ | refine blk_drew ?_ | refine blk_alloc ?_ _)); exact BK204.out) hb); have n1_ := Aside0.mk (below_step (by repeat (first | (with_reducible first | exact HB.out | apply below_alloc | apply pw_below_drewN | apply below_drew1 | refine below_set ?_ GE204.out) | exact HB.out)) hb); have n2_ := Aside0.mk (hbox); have n3_ := Aside0.mk ((by rw [hg]; exact (below_size (by repeat (first | (with_reducible first | exact HB.out | apply below_alloc | apply pw_below_drewN | apply below_drew1 | refine below_set ?_ GE204.out) | exact HB.out))) : w.heap.size ≤ gb205)); have n4_ := Aside0.mk ((by rw [hg]; exact (below_size (by repeat (first | (with_reducible first | exact HB.out | apply below_alloc | apply pw_below_drewN | apply below_drew1 | refine below_set ?_ GE204.out) | exact HB.out))) : w.heap.size ≤ gb205)); have n5_ := Aside0.mk ((by rw [hg]; exact Nat.ne_of_lt (blk_lt (g := gb204) (o := .cells #[.slice A0_0 l0_0.length c0_0, .int .i64 a0_1, .int .i64 a0_2] 26 (0, 0)) (by (with_reducible repeat (first | refine blk_drewN ?_ _ | refine blk_drew ?_ | refine blk_alloc ?_ _)); exact BK204.out)) : gb204 ≠ gb205)); have n6_ := Aside0.mk ((by rw [hg]; exact Nat.ne_of_gt (blk_lt (g := gb204) (o := .cells #[.slice A0_0 l0_0.length c0_0, .int .i64 a0_1, .int .i64 a0_2] 26 (0, 0)) (by (with_reducible repeat (first | refine blk_drewN ?_ _ | refine blk_drew ?_ | refine blk_alloc ?_ _)); exact BK204.out)) : gb205 ≠ gb204)); clear BK204; clear HB; have BK204 := n0_; have HB := n1_; have BK205 := n2_; have GW205 := n3_; have GE205 := n4_; have NB204_205 := n5_; have NB205_204 := n6_; clear n0_ n1_ n2_ n3_ n4_ n5_ n6_; clear hb hbox hg; have hnb6 := NB204_205.out; have hnc6 := NB205_204.out; have hcz7_0 : w5.cell? ⟨gb204, 0, none⟩ = some (.slice A0_0 l0_0.length c0_0) := (blk_cell BK204.out 0).trans rfl; have hcz7_1 : w5.cell? ⟨gb204, 1, none⟩ = some (.int .i64 a0_1) := (blk_cell BK204.out 1).trans rfl; have hcz7_2 : w5.cell? ⟨gb204, 2, none⟩ = some (.int .i64 a0_2) := (blk_cell BK204.out 2).trans rfl; have hfz7_0 := blk_frozen BK204.out 0; have hfz7_1 := blk_frozen BK204.out 1; have hfz7_2 := blk_frozen BK204.out 2; have hcz8_0 : w5.cell? ⟨gb205, 0, none⟩ = some (.int .i64 0) := (blk_cell BK205.out 0).trans rfl; have hcz8_1 : w5.cell? ⟨gb205, 1, none⟩ = some (.int .i64 0) := (blk_cell BK205.out 1).trans rfl; have hfz8_0 := blk_frozen BK205.out 0; have hfz8_1 := blk_frozen BK205.out 1))
    refine bodyPost_ret (results_cell_row rfl _ _ gb205 24 #[.int .i64 a0_1, .int .i64 a0_2] (0, 0) _ rfl (by (with_reducible repeat (first | refine blk_drewN ?_ _ | refine blk_drew ?_ | refine blk_alloc ?_ _)); refine blk_put (cs := #[.int .i64 a0_1, .int .i64 0]) ?_ 1 _ rfl; (with_reducible repeat (first | refine blk_drewN ?_ _ | refine blk_drew ?_ | refine blk_alloc ?_ _)); refine blk_put (cs := #[.int .i64 0, .int .i64 0]) ?_ 0 _ rfl; (with_reducible repeat (first | refine blk_drewN ?_ _ | refine blk_drew ?_ | refine blk_alloc ?_ _)); exact BK205.out) Tryd.underlying24 rfl (by kernel_rfl)) rfl ?_
    exact ⟨by first | rfl | (simp [errW_none, errW_some] <;> rfl) | (simp [*, errW_none, errW_some] <;> rfl), by repeat (first | (with_reducible first | exact HB.out | apply below_alloc | apply pw_below_drewN | apply below_drew1 | refine below_set ?_ GE204.out | refine below_set ?_ GE205.out) | exact HB.out)⟩
  · rw [if_neg c3] at H
    have c3b0 : decide (a1 < 0) = false := decide_eq_false c3
    clear c3
    replace H := Option.bind_eq_some_iff.mp H
    obtain ⟨⟨t206, t207⟩, A90, H⟩ := H
    replace H : (some (t206, t207)) = some (r1, r2) := H
    have A9 := Aside0.mk A90
    clear A90
    simp only [Option.some.injEq, Prod.mk.injEq] at H
    obtain ⟨rfl, rfl⟩ := H
    go_enter Tryd.func43, Tryd.ntmps43
    go_wp2_with (first | ((with_reducible refine gate_dst (N := 2) rfl ?_); refine box_event ?hg (N := 2) ?hd (cs := #[.slice A0_0 l0_0.length c0_0, .int .i64 a0_1, .int .i64 a0_2]) (t := 26) ?hr ?_; (case hd => rfl); (case hg => rfl); (case hr => first | (go_simp; done) | (go_simp; rfl)); intro gb204 hg w10 hbox hb; have n0_ := Aside0.mk (below_step (by repeat (first | (with_reducible first | exact HB.out | apply below_alloc | apply pw_below_drewN | apply below_drew1) | exact HB.out)) hb); have n1_ := Aside0.mk (hbox); have n2_ := Aside0.mk ((by rw [hg]; exact (below_size (by repeat (first | (with_reducible first | exact HB.out | apply below_alloc | apply pw_below_drewN | apply below_drew1) | exact HB.out))) : w.heap.size ≤ gb204)); have n3_ := Aside0.mk ((by rw [hg]; exact (below_size (by repeat (first | (with_reducible first | exact HB.out | apply below_alloc | apply pw_below_drewN | apply below_drew1) | exact HB.out))) : w.heap.size ≤ gb204)); clear HB; have HB := n0_; have BK204 := n1_; have GW204 := n2_; have GE204 := n3_; clear n0_ n1_ n2_ n3_; clear hb hbox hg) | ((with_reducible refine gate_dst (N := 4) rfl ?_); refine box_event ?hg (N := 4) ?hd (cs := #[.int .i64 0, .int .i64 0]) (t := 24) ?hr ?_; (case hd => rfl); (case hg => rfl); (case hr => first | (go_simp; done) | (go_simp; rfl)); intro gb205 hg w11 hbox hb; have n0_ := Aside0.mk (blk_below (g := gb204) (o := .cells #[.slice A0_0 l0_0.length c0_0, .int .i64 a0_1, .int .i64 a0_2] 26 (0, 0)) (by (with_reducible repeat (first | refine blk_drewN ?_ _ | refine blk_drew ?_ | refine blk_alloc ?_ _)); exact BK204.out) hb); have n1_ := Aside0.mk (below_step (by repeat (first | (with_reducible first | exact HB.out | apply below_alloc | apply pw_below_drewN | apply below_drew1 | refine below_set ?_ GE204.out) | exact HB.out)) hb); have n2_ := Aside0.mk (hbox); have n3_ := Aside0.mk ((by rw [hg]; exact (below_size (by repeat (first | (with_reducible first | exact HB.out | apply below_alloc | apply pw_below_drewN | apply below_drew1 | refine below_set ?_ GE204.out) | exact HB.out))) : w.heap.size ≤ gb205)); have n4_ := Aside0.mk ((by rw [hg]; exact (below_size (by repeat (first | (with_reducible first | exact HB.out | apply below_alloc | apply pw_below_drewN | apply below_drew1 | refine below_set ?_ GE204.out) | exact HB.out))) : w.heap.size ≤ gb205)); have n5_ := Aside0.mk ((by rw [hg]; exact Nat.ne_of_lt (blk_lt (g := gb204) (o := .cells #[.slice A0_0 l0_0.length c0_0, .int .i64 a0_1, .int .i64 a0_2] 26 (0, 0)) (by (with_reducible repeat (first | refine blk_drewN ?_ _ | refine blk_drew ?_ | refine blk_alloc ?_ _)); exact BK204.out)) : gb204 ≠ gb205)); have n6_ := Aside0.mk ((by rw [hg]; exact Nat.ne_of_gt (blk_lt (g := gb204) (o := .cells #[.slice A0_0 l0_0.length c0_0, .int .i64 a0_1, .int .i64 a0_2] 26 (0, 0)) (by (with_reducible repeat (first | refine blk_drewN ?_ _ | refine blk_drew ?_ | refine blk_alloc ?_ _)); exact BK204.out)) : gb205 ≠ gb204)); clear BK204; clear HB; have BK204 := n0_; have HB := n1_; have BK205 := n2_; have GW205 := n3_; have GE205 := n4_; have NB204_205 := n5_; have NB205_204 := n6_; clear n0_ n1_ n2_ n3_ n4_ n5_ n6_; clear hb hbox hg; have hnb12 := NB204_205.out; have hnc12 := NB205_204.out; have hcz13_0 : w11.cell? ⟨gb204, 0, none⟩ = some (.slice A0_0 l0_0.length c0_0) := (blk_cell BK204.out 0).trans rfl; have hcz13_1 : w11.cell? ⟨gb204, 1, none⟩ = some (.int .i64 a0_1) := (blk_cell BK204.out 1).trans rfl; have hcz13_2 : w11.cell? ⟨gb204, 2, none⟩ = some (.int .i64 a0_2) := (blk_cell BK204.out 2).trans rfl; have hfz13_0 := blk_frozen BK204.out 0; have hfz13_1 := blk_frozen BK204.out 1; have hfz13_2 := blk_frozen BK204.out 2) | ((with_reducible refine gate_callee (f := 22) rfl ?_); refine goesL_ (some 11) rfl rfl Tryd.func22 (by kernel_rfl) rfl #[.agg #[.slice A0_0 l0_0.length c0_0, .int .i64 a0_1, .int .i64 a0_2], .int .i64 a1] rfl (by (try simp only [List.map_toArray, List.map_cons, List.map_nil]); first | done | rfl | (simp only [List.length_drop, List.length_take]; rfl)) ?_; (with_reducible refine (term_At.calls k _ _ l0_0 a0_1 a0_2 a1 t206 t207 _ ?side1 ?side2 A9.out).mono ?_); (case side1 => repeat (first | exact (Kd.C_below HR0_0.out HB.out) | (with_reducible refine Kd.C_alloc ?_ _) | (with_reducible refine Kd.C_drewN ?_ _) | (with_reducible refine Kd.C_drew ?_))); (case side2 => exact HC0_0.out); rintro e w14 ⟨rfl, hb⟩; refine ⟨_, rfl, ?_⟩; have n0_ := Aside0.mk (blk_below (g := gb204) (o := .cells #[.slice A0_0 l0_0.length c0_0, .int .i64 a0_1, .int .i64 a0_2] 26 (0, 0)) (by (with_reducible repeat (first | refine blk_drewN ?_ _ | refine blk_drew ?_ | refine blk_alloc ?_ _)); exact BK204.out) hb); have n1_ := Aside0.mk (blk_below (g := gb205) (o := .cells #[.int .i64 0, .int .i64 0] 24 (0, 0)) (by (with_reducible repeat (first | refine blk_drewN ?_ _ | refine blk_drew ?_ | refine blk_alloc ?_ _)); exact BK205.out) hb); have n2_ := Aside0.mk (below_step (by repeat (first | (with_reducible first | exact HB.out | apply below_alloc | apply pw_below_drewN | apply below_drew1 | refine below_set ?_ GE204.out | refine below_set ?_ GE205.out) | exact HB.out)) hb); clear BK204; clear BK205; clear HB; have BK204 := n0_; have BK205 := n1_; have HB := n2_; clear n0_ n1_ n2_; (try clear hb); (try clear hb2); (try clear hk); (try clear hi); have hcz15_0 : w14.cell? ⟨gb205, 0, none⟩ = some (.int .i64 0) := (blk_cell BK205.out 0).trans rfl; have hcz15_1 : w14.cell? ⟨gb205, 1, none⟩ = some (.int .i64 0) := (blk_cell BK205.out 1).trans rfl; have hfz15_0 := blk_frozen BK205.out 0; have hfz15_1 := blk_frozen BK205.out 1))
    refine bodyPost_ret (results_cell_row rfl _ _ gb205 24 #[.int .i64 t206, .int .i64 t207] (0, 0) _ rfl (by (with_reducible repeat (first | refine blk_drewN ?_ _ | refine blk_drew ?_ | refine blk_alloc ?_ _)); refine blk_put (cs := #[.int .i64 t206, .int .i64 0]) ?_ 1 _ rfl; (with_reducible repeat (first | refine blk_drewN ?_ _ | refine blk_drew ?_ | refine blk_alloc ?_ _)); refine blk_put (cs := #[.int .i64 0, .int .i64 0]) ?_ 0 _ rfl; (with_reducible repeat (first | refine blk_drewN ?_ _ | refine blk_drew ?_ | refine blk_alloc ?_ _)); exact BK205.out) Tryd.underlying24 rfl (by kernel_rfl)) rfl ?_
    exact ⟨by first | rfl | (simp [errW_none, errW_some] <;> rfl) | (simp [*, errW_none, errW_some] <;> rfl), by repeat (first | (with_reducible first | exact HB.out | apply below_alloc | apply pw_below_drewN | apply below_drew1 | refine below_set ?_ GE204.out | refine below_set ?_ GE205.out) | exact HB.out)⟩
def rat_Mul.f (a0_0 : Int) (a0_1 : Int) (a1_0 : Int) (a1_1 : Int) : Option (Int × Int × Int) := if (BallQ.In64 a0_0 ∧ BallQ.In64 a0_1) ∧ BallQ.In64 a1_0 ∧ BallQ.In64 a1_1 then some (PRat.mulS a0_0 a0_1 a1_0 a1_1) else none
theorem rat_Mul.calls (a0_0 : Int) (a0_1 : Int) (a1_0 : Int) (a1_1 : Int) (r1 : Int) (r2 : Int) (r3 : Int) (w : World) (h : rat_Mul.f a0_0 a0_1 a1_0 a1_1 = some (r1, r2, r3)) :
    Calls Tryd.prog 45 #[.agg #[.int .i64 a0_0, .int .i64 a0_1], .agg #[.int .i64 a1_0, .int .i64 a1_1]] w fun e w' => e = .returned (.tuple #[.agg #[.int .i64 r1, .int .i64 r2], .int .i64 r3]) ∧ Below w.heap.size w w' := by
  unfold rat_Mul.f at h
  split at h
  · rename_i hc
    have e := Option.some.inj h
    obtain ⟨k, hk⟩ := Ev.rounds (PRat.mul_ev a0_0 a0_1 a1_0 a1_1 hc.1.1 hc.1.2 hc.2.1 hc.2.2)
    rw [e] at hk
    exact PRat.rat_Mul.calls k a0_0 a0_1 a1_0 a1_1 r1 r2 r3 w hk
  · cases h
end Go.Proofs.YtijhnmbegceonaaDoor.PTerm
namespace Go.Proofs.YtijhnmbegceonaaDoor.PTerm
open Go.RowKit Go.Proofs.YtijhnmbegceonaaDoorW.PrintWords Go.Proofs.YtijhnmbegceonaaDoorW.PrintLast Go.Proofs.YtijhnmbegceonaaDoorW.PrintMore
attribute [local go_sem] max2_int min2_int max_two min_two max_three min_three max_four min_four
set_option linter.unusedVariables false
set_option linter.unusedSimpArgs false
theorem three_new (w : World) (o o' o2 : Obj) : (((w.alloc o).alloc o').alloc o2).heap[w.heap.size]? = some o ∧ (((w.alloc o).alloc o').alloc o2).heap[w.heap.size + 1]? = some o' ∧ (((w.alloc o).alloc o').alloc o2).heap[w.heap.size + 1 + 1]? = some o2 := by
  have e1 : (w.alloc o).heap.size = w.heap.size + 1 := by show (w.heap.push _).size = _; simp
  have e2 : ((w.alloc o).alloc o').heap.size = w.heap.size + 1 + 1 := by show ((w.alloc o).heap.push _).size = _; rw [Array.size_push, e1]
  exact ⟨blk_alloc (blk_alloc (blk_new w o) o') o2, blk_alloc (by rw [← e1]; exact blk_new (w.alloc o) o') o2, by rw [← e2]; exact blk_new ((w.alloc o).alloc o') o2⟩
theorem two_new (w : World) (o o' : Obj) : ((w.alloc o).alloc o').heap[w.heap.size]? = some o ∧ ((w.alloc o).alloc o').heap[w.heap.size + 1]? = some o' := by
  have e1 : (w.alloc o).heap.size = w.heap.size + 1 := by show (w.heap.push _).size = _; simp
  exact ⟨blk_alloc (blk_new w o) o', by rw [← e1]; exact blk_new (w.alloc o) o'⟩
def cutN (l : List (S24)) : Nat → Nat
  | 0 => 0
  | n + 1 => if (l.getD n ⟨0, 0⟩).f0 = 0 then cutN l n else n + 1
def trimT (l : List (S24)) : List (S24) := l.take (cutN l l.length)
theorem cutN_le (l : List (S24)) : ∀ n, cutN l n ≤ n
  | 0 => Nat.le_refl _
  | n + 1 => by unfold cutN; split; exact Nat.le_succ_of_le (cutN_le l n); exact Nat.le_refl _
theorem rd24 (l : List (S24)) (i : Nat) (h : i < l.length) : rd_T24 l (i : Int) = l.getD i ⟨0, 0⟩ := by
  unfold rd_T24; rw [Int.toNat_natCast, List.getD_eq_getElem?_getD, List.getD_eq_getElem?_getD, List.getElem?_eq_getElem h]; rfl
theorem trim_l0 (l : List (S24)) (a b : Int) (hl : l.length < 1000000) : ∀ n, n ≤ l.length → Ev (fun k => term_trim.l0 k (n : Int) l a b) (l.take (cutN l n), a, b) := by
  have stop : ∀ n, n ≤ l.length → Ev (fun k => term_trim.j1 k (n : Int) false l a b) (l.take n, a, b) := by
    intro n hn
    refine Ev.step (fun k => by rw [term_trim.j1]) (PRat.Ev_neg (by decide) (PRat.Ev_pos (by omega) (PRat.Ev_pos (by omega) ?_)))
    rw [Int.toNat_natCast]
    have e : api_Rat_58.f (l.take n) = some (l.take n) := by unfold api_Rat_58.f; rw [if_pos (by rw [List.length_take]; omega)]
    rw [e]
    exact Ev.now _
  intro n
  induction n with
  | zero =>
    intro _
    exact Ev.step (fun k => by rw [term_trim.l0]) (PRat.Ev_neg (by omega) (stop 0 (by omega)))
  | succ n ih =>
    intro hn
    have ew : wrap64 (((n + 1 : Nat) : Int) - 1) = (n : Int) := by unfold wrap64; omega
    refine Ev.step (fun k => by rw [term_trim.l0]) (PRat.Ev_pos (by omega) ?_)
    rw [ew]
    refine PRat.Ev_pos (by omega) (PRat.Ev_pos (by omega) ?_)
    rw [rd24 l n (by omega)]
    by_cases h0 : (l.getD n ⟨0, 0⟩).f0 = 0
    · rw [show ((l.getD n ⟨0, 0⟩).f0 == 0) = true by simp only [h0]; rfl]
      have ec : cutN l (n + 1) = cutN l n := by rw [cutN, if_pos h0]
      rw [ec]
      refine Ev.step (fun k => by rw [term_trim.j1]) (PRat.Ev_pos rfl ?_)
      rw [ew]
      exact ih (by omega)
    · rw [show ((l.getD n ⟨0, 0⟩).f0 == 0) = false by rw [beq_eq_false_iff_ne]; exact h0]
      have ec : cutN l (n + 1) = n + 1 := by rw [cutN, if_neg h0]
      rw [ec]
      exact stop (n + 1) hn
theorem trim_ev (l : List (S24)) (a b : Int) (hl : l.length < 1000000) : Ev (fun k => term_trim.f k l a b) (trimT l, a, b) := by
  unfold term_trim.f trimT
  exact trim_l0 l a b hl l.length (Nat.le_refl _)
def oneT (l : List (S24)) (n d : Int) : Nat → Int × Int
  | 0 => (n, d)
  | i + 1 => ((l.getD i ⟨0, 1⟩).f0, (l.getD i ⟨0, 1⟩).f1)
theorem one_succ (l : List (S24)) (n d : Int) (i : Nat) : oneT l n d (i + 1) = ((l.getD i ⟨0, 1⟩).f0, (l.getD i ⟨0, 1⟩).f1) := rfl
theorem one_ev (l : List (S24)) (n d : Int) (i : Nat) : term_one.f 1 l n d ((i : Int) - 1) = some (oneT l n d i) := by
  unfold term_one.f
  cases i with
  | zero => rw [if_pos (by omega)]; rfl
  | succ i =>
    have e : (((i + 1 : Nat) : Int) - 1) = (i : Int) := by omega
    rw [e, if_neg (by omega)]
    unfold term_At.f
    rw [if_neg (by omega), term_At.j0]
    by_cases h : i < l.length
    · rw [decide_eq_false (by omega), if_neg (by decide), if_pos (by omega), if_pos (by omega)]
      have e2 : rd_T24 l (i : Int) = l.getD i ⟨0, 1⟩ := by
        unfold rd_T24; rw [Int.toNat_natCast, List.getD_eq_getElem?_getD, List.getD_eq_getElem?_getD, List.getElem?_eq_getElem h]; rfl
      rw [e2]; rfl
    · rw [decide_eq_true (by omega), if_pos rfl]
      have e2 : l.getD i (⟨0, 1⟩ : S24) = ⟨0, 1⟩ := by rw [List.getD_eq_getElem?_getD, List.getElem?_eq_none (by omega)]; rfl
      rw [one_succ, e2]; rfl
theorem one_in {l : List (S24)} {n d : Int} (h : inAll l) (hn : BallQ.In64 n) (hd : BallQ.In64 d) (i : Nat) : BallQ.In64 (oneT l n d i).1 ∧ BallQ.In64 (oneT l n d i).2 := by
  cases i with
  | zero => exact ⟨hn, hd⟩
  | succ i =>
    rw [one_succ]
    by_cases hi : i < l.length
    · have e : l.getD i (⟨0, 1⟩ : S24) = l[i] := by rw [List.getD_eq_getElem?_getD, List.getElem?_eq_getElem hi]; rfl
      rw [e]; exact h _ (List.getElem_mem hi)
    · have e2 : l.getD i (⟨0, 1⟩ : S24) = ⟨0, 1⟩ := by rw [List.getD_eq_getElem?_getD, List.getElem?_eq_none (by omega)]; rfl
      rw [e2]; exact ⟨⟨by decide, by decide⟩, ⟨by decide, by decide⟩⟩
def eachT (f : Nat → Int × Int × Int) (n : Nat) : List (S24) × Int × Int × Int :=
  match ((List.range (n + 1)).map f).find? (fun x => decide (x.2.2 ≠ 0)) with
  | some x => ([], 0, 0, x.2.2)
  | none => (trimT ((List.range n).map (fun i => (⟨(f (i + 1)).1, (f (i + 1)).2.1⟩ : S24))), (f 0).1, (f 0).2.1, 0)
theorem each_bad {f : Nat → Int × Int × Int} {n i : Nat} (hi : i ≤ n) (h0 : ∀ j, j < i → (f j).2.2 = 0) (h1 : (f i).2.2 ≠ 0) : eachT f n = ([], 0, 0, (f i).2.2) := by
  unfold eachT
  have e : ((List.range (n + 1)).map f).find? (fun x => decide (x.2.2 ≠ 0)) = some (f i) := by
    rw [List.find?_map]
    have e2 : (List.range (n + 1)).find? ((fun x => decide (x.2.2 ≠ 0)) ∘ f) = some i := by
      rw [List.find?_range_eq_some]
      refine ⟨by simpa using h1, by simpa using (show i < n + 1 by omega), fun j hj => by simpa using h0 j hj⟩
    rw [e2]; rfl
  rw [e]
theorem each_good {f : Nat → Int × Int × Int} {n : Nat} (h0 : ∀ j, j < n + 1 → (f j).2.2 = 0) : eachT f n = (trimT ((List.range n).map (fun i => (⟨(f (i + 1)).1, (f (i + 1)).2.1⟩ : S24))), (f 0).1, (f 0).2.1, 0) := by
  unfold eachT
  have e : ((List.range (n + 1)).map f).find? (fun x => decide (x.2.2 ≠ 0)) = none := by
    rw [List.find?_eq_none]
    intro x hx
    obtain ⟨j, hj, rfl⟩ := List.mem_map.1 hx
    simpa using h0 j (by simpa using hj)
  rw [e]
def areg41.T : Bool × List (List Nat × List Nat) := (true, [([], []), ([], []), ([0, 1], [0, 1]), ([], []), ([], []), ([3, 4, 2], [3, 4]), ([2, 5, 5], [2, 5]), ([6], [6]), ([6], [6]), ([7, 6, 0, 1, 2, 3, 4, 5, 6, 7, 8], [7]), ([8, 9, 0, 1, 2, 3, 4, 5, 6, 7, 8, 9], [8])])
def areg41.B : List Nat := [0, 0, 3, 0, 0, 31, 63, 127, 127, 511, 1023]
theorem areg41.tab : rtab .any (opsOf Tryd.f41 1) = areg41.T := by kernel_rfl
theorem areg41.bits : waitsOk areg41.T.2 areg41.B = true := by kernel_rfl
def addF (l0 : List (S24)) (n0 d0 : Int) (l1 : List (S24)) (n1 d1 : Int) (i : Nat) : Int × Int × Int := PRat.addS (oneT l0 n0 d0 i).1 (oneT l0 n0 d0 i).2 (oneT l1 n1 d1 i).1 (oneT l1 n1 d1 i).2
set_option maxHeartbeats 4000000 in
set_option maxRecDepth 100000 in
theorem term_Add.c41 (A0 : Option Addr) (c0 : Nat) (l0 : List (S24)) (n0 d0 : Int) (A1 : Option Addr) (c1 : Nat) (l1 : List (S24)) (n1 d1 : Int) (ga gb : Nat) (w : World) (ha : w.heap[ga]? = some (.cells #[.slice A0 l0.length c0, .int .i64 n0, .int .i64 d0] 26 (0, 0))) (hb : w.heap[gb]? = some (.cells #[.slice A1 l1.length c1, .int .i64 n1, .int .i64 d1] 26 (0, 0))) (hr0 : Kd.C k24 w A0 l0.length l0) (hc0 : l0.length ≤ c0) (hr1 : Kd.C k24 w A1 l1.length l1) (hc1 : l1.length ≤ c1) (h0 : inAll l0 ∧ BallQ.In64 n0 ∧ BallQ.In64 d0) (h1 : inAll l1 ∧ BallQ.In64 n1 ∧ BallQ.In64 d1) (i : Nat) :
    Calls Tryd.prog 41 #[.int .i64 ((i : Int) - 1), .pointer (some ⟨ga, 0, none⟩), .pointer (some ⟨gb, 0, none⟩)] w fun e w' => e = .returned (.tuple #[.agg #[.int .i64 (addF l0 n0 d0 l1 n1 d1 i).1, .int .i64 (addF l0 n0 d0 l1 n1 d1 i).2.1], .int .i64 (addF l0 n0 d0 l1 n1 d1 i).2.2]) ∧ Below w.heap.size w w' := by
  have C0 := Aside0.mk (fun W (hb : Below w.heap.size w W) => term_one.calls 1 A0 c0 l0 n0 d0 ((i : Int) - 1) (oneT l0 n0 d0 i).1 (oneT l0 n0 d0 i).2 W (Kd.C_below hr0 hb) hc0 (one_ev l0 n0 d0 i))
  have C1 := Aside0.mk (fun W (hb : Below w.heap.size w W) => term_one.calls 1 A1 c1 l1 n1 d1 ((i : Int) - 1) (oneT l1 n1 d1 i).1 (oneT l1 n1 d1 i).2 W (Kd.C_below hr1 hb) hc1 (one_ev l1 n1 d1 i))
  have i0 := one_in h0.1 h0.2.1 h0.2.2 i
  have i1 := one_in h1.1 h1.2.1 h1.2.2 i
  have C2 := Aside0.mk (fun W => rat_Add.calls (oneT l0 n0 d0 i).1 (oneT l0 n0 d0 i).2 (oneT l1 n1 d1 i).1 (oneT l1 n1 d1 i).2 (addF l0 n0 d0 l1 n1 d1 i).1 (addF l0 n0 d0 l1 n1 d1 i).2.1 (addF l0 n0 d0 l1 n1 d1 i).2.2 W (by unfold rat_Add.f; rw [if_pos ⟨i0, i1⟩]; rfl))
  generalize addF l0 n0 d0 l1 n1 d1 i = z at C2 ⊢
  generalize (oneT l0 n0 d0 i).1 = x0 at C0 C2
  generalize (oneT l0 n0 d0 i).2 = x1 at C0 C2
  generalize (oneT l1 n1 d1 i).1 = y0 at C1 C2
  generalize (oneT l1 n1 d1 i).2 = y1 at C1 C2
  clear i0 i1 h0 h1 hr0 hr1 hc0 hc1
  obtain ⟨j, hj⟩ : ∃ j : Int, j = (i : Int) - 1 := ⟨_, rfl⟩
  rw [← hj] at C0 C1 ⊢
  clear hj
  obtain ⟨z0, z1, z2⟩ := z
  simp only at C2 ⊢
  have HZ := Aside0.mk (blk_new w (.cells #[.int .i64 0, .int .i64 0] 24 (0, 0)))
  have HB := Aside0.mk (below_alloc (Below.refl w.heap.size w) (.cells #[.int .i64 0, .int .i64 0] 24 (0, 0)))
  have HA := Aside0.mk (blk_alloc ha (.cells #[.int .i64 0, .int .i64 0] 24 (0, 0)))
  have HD := Aside0.mk (blk_alloc hb (.cells #[.int .i64 0, .int .i64 0] 24 (0, 0)))
  have NE := Aside0.mk (show ga ≠ w.heap.size ∧ gb ≠ w.heap.size ∧ w.heap.size ≤ w.heap.size from ⟨by have := blk_lt ha; omega, by have := blk_lt hb; omega, Nat.le_refl _⟩)
  clear ha hb
  go_enter Tryd.func41, Tryd.ntmps41
  go_wp2_with (fail)
  generalize hW2 : w.alloc (.cells #[.int .i64 0, .int .i64 0] 24 (0, 0)) = W1 at HZ HB HA HD ⊢
  clear hW2
  obtain ⟨gr, hgr⟩ : ∃ gr, gr = w.heap.size := ⟨_, rfl⟩
  have GE := Aside0.mk (show w.heap.size ≤ gr by rw [hgr]; exact Nat.le_refl _)
  rw [← hgr] at HZ NE ⊢
  clear hgr
  have HZ0 := Aside0.mk (blk_drew HZ.out)
  have HB0 := Aside0.mk (below_drew1 HB.out)
  have HA0 := Aside0.mk (blk_drew HA.out)
  have HD0 := Aside0.mk (blk_drew HD.out)
  refine start_ (n := 11) (S := (fun w' => w'.cell? ⟨ga, 0, none⟩ = some (.slice A0 l0.length c0) ∧ w'.cell? ⟨ga, 1, none⟩ = some (.int .i64 n0) ∧ w'.cell? ⟨ga, 2, none⟩ = some (.int .i64 d0) ∧ w'.cell? ⟨gb, 0, none⟩ = some (.slice A1 l1.length c1) ∧ w'.cell? ⟨gb, 1, none⟩ = some (.int .i64 n1) ∧ w'.cell? ⟨gb, 2, none⟩ = some (.int .i64 d1))) (ds := []) #[false, false, false, false, false, false, false, false, false, false, false] (by kernel_rfl) rfl rfl (⟨(blk_cell HA.out 0).trans rfl, (blk_cell HA.out 1).trans rfl, (blk_cell HA.out 2).trans rfl, (blk_cell HD.out 0).trans rfl, (blk_cell HD.out 1).trans rfl, (blk_cell HD.out 2).trans rfl⟩) (fun hHeld => ?_); refine with_tabW areg41.tab areg41.bits (fun HT_ HW_ => ?_)
  clear HZ HB HA HD
  generalize W1.drew = Wq at HZ0 HB0 HA0 HD0 hHeld ⊢
  refine take_ (i := 0) (N := some 6) (v := ?_) (a' := ?_) #[true, false, false, false, false, false, false, false, false, false, false] rfl rfl (take_ofW HT_.out HW_.out (by kernel_rfl)) (fun _ _ _ h => h) (Or.inl ⟨by rfl, ?_⟩) hHeld ?_ ?_
  rotate_left
  · intro w' s0
    obtain ⟨s0, s1, s2, s3, s4, s5⟩ := s0
    go_simp
    with_reducible rfl
  rotate_left
  · simp only [Act.put, List.setIfInBounds_toArray, List.set_cons_zero, List.set_cons_succ, i64_w, i32_w]
    rfl
  refine pure_ (i := 1) (N := some 7) (v := ?_) (a' := ?_) #[true, true, false, false, false, false, false, false, false, false, false] rfl rfl (any_of HT_.out (by kernel_rfl)) (fun _ _ _ h => h) (Or.inl ⟨by rfl, ?_⟩) ?_ ?_
  rotate_left
  · intro w'
    go_simp
    with_reducible rfl
  rotate_left
  · simp only [Act.put, List.setIfInBounds_toArray, List.set_cons_zero, List.set_cons_succ, i64_w, i32_w]
    rfl
  refine take_ (i := 3) (N := some 9) (v := ?_) (a' := ?_) #[true, true, false, true, false, false, false, false, false, false, false] rfl rfl (take_ofW HT_.out HW_.out (by kernel_rfl)) (fun _ _ _ h => h) (Or.inl ⟨by rfl, ?_⟩) hHeld ?_ ?_
  rotate_left
  · intro w' s0
    obtain ⟨s0, s1, s2, s3, s4, s5⟩ := s0
    go_simp
    with_reducible rfl
  rotate_left
  · simp only [Act.put, List.setIfInBounds_toArray, List.set_cons_zero, List.set_cons_succ, i64_w, i32_w]
    rfl
  refine pure_ (i := 4) (N := some 10) (v := ?_) (a' := ?_) #[true, true, false, true, true, false, false, false, false, false, false] rfl rfl (any_of HT_.out (by kernel_rfl)) (fun _ _ _ h => h) (Or.inl ⟨by rfl, ?_⟩) ?_ ?_
  rotate_left
  · intro w'
    go_simp
    with_reducible rfl
  rotate_left
  · simp only [Act.put, List.setIfInBounds_toArray, List.set_cons_zero, List.set_cons_succ, i64_w, i32_w]
    rfl
  refine one_ (i := 2) (N := some 8) #[true, true, true, true, true, false, false, false, false, false, false] rfl rfl (one_of HT_.out (by kernel_rfl)) (by decide) (fun K hK => ?_)
  refine goes_ Tryd.func43 (by kernel_rfl) rfl #[.agg #[.slice A0 l0.length c0, .int .i64 n0, .int .i64 d0], .int .i64 j] (by rfl) rfl rfl (by (try simp only [List.map_toArray, List.map_cons, List.map_nil]); first | done | rfl) ?_
  refine (C0.out _ HB0.out).mono ?_
  rintro e W1 ⟨rfl, hq⟩
  have HZ1 := Aside0.mk (blk_below HZ0.out hq)
  have HA1 := Aside0.mk (blk_below HA0.out hq)
  have HD1 := Aside0.mk (blk_below HD0.out hq)
  have HB1 := Aside0.mk (below_step HB0.out hq)
  clear hq HZ0 HA0 HD0 HB0
  refine ⟨_, rfl, ?_⟩
  refine hK.out _ _ ⟨(blk_cell HA1.out 0).trans rfl, (blk_cell HA1.out 1).trans rfl, (blk_cell HA1.out 2).trans rfl, (blk_cell HD1.out 0).trans rfl, (blk_cell HD1.out 1).trans rfl, (blk_cell HD1.out 2).trans rfl⟩ (fun hHeld => ?_)
  clear hK K
  refine norm_ (a' := ?_) ?_ ?_
  rotate_left
  · show Act.put _ (some 8) _ = _
    simp only [Act.put, List.setIfInBounds_toArray, List.set_cons_zero, List.set_cons_succ, i64_w, i32_w]
    rfl
  refine one_ (i := 5) (N := some 11) #[true, true, true, true, true, true, false, false, false, false, false] rfl rfl (one_of HT_.out (by kernel_rfl)) (by decide) (fun K hK => ?_)
  refine goes_ Tryd.func43 (by kernel_rfl) rfl #[.agg #[.slice A1 l1.length c1, .int .i64 n1, .int .i64 d1], .int .i64 j] (by rfl) rfl rfl (by (try simp only [List.map_toArray, List.map_cons, List.map_nil]); first | done | rfl) ?_
  refine (C1.out _ HB1.out).mono ?_
  rintro e W2 ⟨rfl, hq⟩
  have HZ2 := Aside0.mk (blk_below HZ1.out hq)
  have HA2 := Aside0.mk (blk_below HA1.out hq)
  have HD2 := Aside0.mk (blk_below HD1.out hq)
  have HB2 := Aside0.mk (below_step HB1.out hq)
  clear hq HZ1 HA1 HD1 HB1
  refine ⟨_, rfl, ?_⟩
  refine hK.out _ _ ⟨(blk_cell HA2.out 0).trans rfl, (blk_cell HA2.out 1).trans rfl, (blk_cell HA2.out 2).trans rfl, (blk_cell HD2.out 0).trans rfl, (blk_cell HD2.out 1).trans rfl, (blk_cell HD2.out 2).trans rfl⟩ (fun hHeld => ?_)
  clear hK K
  refine norm_ (a' := ?_) ?_ ?_
  rotate_left
  · show Act.put _ (some 11) _ = _
    simp only [Act.put, List.setIfInBounds_toArray, List.set_cons_zero, List.set_cons_succ, i64_w, i32_w]
    rfl
  refine one_ (i := 6) (N := some 12) #[true, true, true, true, true, true, true, false, false, false, false] rfl rfl (one_of HT_.out (by kernel_rfl)) (by decide) (fun K hK => ?_)
  refine goes_ Tryd.func42 (by kernel_rfl) rfl #[.agg #[.int .i64 x0, .int .i64 x1], .agg #[.int .i64 y0, .int .i64 y1]] (by rfl) rfl rfl (by (try simp only [List.map_toArray, List.map_cons, List.map_nil]); first | done | rfl) ?_
  refine (C2.out _).mono ?_
  rintro e W3 ⟨rfl, hq⟩
  have HZ3 := Aside0.mk (blk_below HZ2.out hq)
  have HA3 := Aside0.mk (blk_below HA2.out hq)
  have HD3 := Aside0.mk (blk_below HD2.out hq)
  have HB3 := Aside0.mk (below_step HB2.out hq)
  clear hq HZ2 HA2 HD2 HB2
  refine ⟨_, rfl, ?_⟩
  refine hK.out _ _ ⟨(blk_cell HA3.out 0).trans rfl, (blk_cell HA3.out 1).trans rfl, (blk_cell HA3.out 2).trans rfl, (blk_cell HD3.out 0).trans rfl, (blk_cell HD3.out 1).trans rfl, (blk_cell HD3.out 2).trans rfl⟩ (fun hHeld => ?_)
  clear hK K
  refine norm_ (a' := ?_) ?_ ?_
  rotate_left
  · show Act.put _ (some 12) _ = _
    simp only [Act.put, List.setIfInBounds_toArray, List.set_cons_zero, List.set_cons_succ, i64_w, i32_w]
    rfl
  refine pure_ (i := 7) (N := some 13) (v := ?_) (a' := ?_) #[true, true, true, true, true, true, true, true, false, false, false] rfl rfl (any_of HT_.out (by kernel_rfl)) (fun _ _ _ h => h) (Or.inl ⟨by rfl, ?_⟩) ?_ ?_
  rotate_left
  · intro w'
    go_simp
    with_reducible rfl
  rotate_left
  · simp only [Act.put, List.setIfInBounds_toArray, List.set_cons_zero, List.set_cons_succ, i64_w, i32_w]
    rfl
  refine pure_ (i := 8) (N := some 14) (v := ?_) (a' := ?_) #[true, true, true, true, true, true, true, true, true, false, false] rfl rfl (any_of HT_.out (by kernel_rfl)) (fun _ _ _ h => h) (Or.inl ⟨by rfl, ?_⟩) ?_ ?_
  rotate_left
  · intro w'
    go_simp
    with_reducible rfl
  rotate_left
  · simp only [Act.put, List.setIfInBounds_toArray, List.set_cons_zero, List.set_cons_succ, i64_w, i32_w]
    rfl
  have k0 := (blk_cell HZ3.out 0).trans rfl
  have k1 := (blk_cell HZ3.out 1).trans rfl
  have f0 := blk_frozen HZ3.out 0
  have f1 := blk_frozen HZ3.out 1
  refine one_ (i := 9) (N := none) #[true, true, true, true, true, true, true, true, true, true, false] rfl rfl (one_of HT_.out (by kernel_rfl)) (by decide) (fun K hK => ?_)
  refine skip_ (w1 := (W3.setCell ⟨gr, 0, none⟩ (.int .i64 z0)).setCell ⟨gr, 1, none⟩ (.int .i64 z1)) (by rfl) rfl (by first | (go_simp; done) | (go_simp; rfl)) ?_
  have HAz := Aside0.mk (blk_far (p := ⟨gr, 1, none⟩) (blk_far (p := ⟨gr, 0, none⟩) HA3.out NE.out.1 (.int .i64 z0)) NE.out.1 (.int .i64 z1))
  have HDz := Aside0.mk (blk_far (p := ⟨gr, 1, none⟩) (blk_far (p := ⟨gr, 0, none⟩) HD3.out NE.out.2.1 (.int .i64 z0)) NE.out.2.1 (.int .i64 z1))
  refine hK.out _ _ ⟨(blk_cell HAz.out 0).trans rfl, (blk_cell HAz.out 1).trans rfl, (blk_cell HAz.out 2).trans rfl, (blk_cell HDz.out 0).trans rfl, (blk_cell HDz.out 1).trans rfl, (blk_cell HDz.out 2).trans rfl⟩ (fun hHeld => ?_)
  clear hK K k0 k1 f0 f1
  refine norm_ (a' := ?_) ?_ ?_
  rotate_left
  · rfl
  refine pure_ (i := 10) (N := some 5) (v := ?_) (a' := ?_) #[true, true, true, true, true, true, true, true, true, true, true] rfl rfl (any_of HT_.out (by kernel_rfl)) (fun _ _ _ h => h) (Or.inl ⟨by rfl, ?_⟩) ?_ ?_
  rotate_left
  · intro w'
    go_simp
    with_reducible rfl
  rotate_left
  · simp only [Act.put, List.setIfInBounds_toArray, List.set_cons_zero, List.set_cons_succ, i64_w, i32_w]
    rfl
  refine done_ (done_of HT_.out (by kernel_rfl)) ?_
  go_wp2_with (fail)
  refine bodyPost_ret (results_ct rfl _ _ gr 24 #[.int .i64 z0, .int .i64 z1] (0, 0) _ rfl (blk_put (cs := #[.int .i64 z0, .int .i64 0]) (blk_put (cs := #[.int .i64 0, .int .i64 0]) HZ3.out 0 _ rfl) 1 _ rfl) Tryd.underlying24 rfl (by kernel_rfl)) rfl ?_
  exact ⟨rfl, below_set (below_set HB3.out GE.out) GE.out⟩
def EachO (R : List (S24) × Int × Int × Int) (w : World) (e : Ending) (w' : World) : Prop := ∃ v0_ : Value, e = .returned (.tuple #[.agg #[v0_, .int .i64 R.2.1, .int .i64 R.2.2.1], .int .i64 R.2.2.2]) ∧ Kd.R k24 24 w' w.heap.size (fun _ => True) v0_ R.1 ∧ Below w.heap.size w w'
set_option maxHeartbeats 4000000 in
set_option maxRecDepth 100000 in
theorem term_Add.each41 (f : Nat → Int × Int × Int) (n : Nat) (hn : n < 900000) (ga gb : Nat) (w : World) (HF : ∀ (i : Nat) (W : World), Below w.heap.size w W → Calls Tryd.prog 41 #[.int .i64 ((i : Int) - 1), .pointer (some ⟨ga, 0, none⟩), .pointer (some ⟨gb, 0, none⟩)] W fun e w' => e = .returned (.tuple #[.agg #[.int .i64 (f i).1, .int .i64 (f i).2.1], .int .i64 (f i).2.2]) ∧ Below W.heap.size W w') :
    Calls Tryd.prog 40 #[.int .i64 (n : Int), .func (.func 41) #[] #[.pointer (some ⟨ga, 0, none⟩), .pointer (some ⟨gb, 0, none⟩)]] w (EachO (eachT f n) w) := by
  have hu24 := Tryd.underlying24
  have hu26 := Tryd.underlying26
  have HFA := Aside0.mk HF
  have hw : wrap64 ((n : Int) + 1) = ((n + 1 : Nat) : Int) := by unfold wrap64; omega
  have HN := Aside0.mk hn
  have HS := Aside0.mk (two_new w (.cells #[.slice none 0 0, .int .i64 0, .int .i64 0] 26 (0, 0)) (.cells #[.slice none 0 0, .int .i64 0, .int .i64 0] 26 (0, 0)))
  have HB := Aside0.mk (below_alloc (below_alloc (Below.refl w.heap.size w) (.cells #[.slice none 0 0, .int .i64 0, .int .i64 0] 26 (0, 0))) (.cells #[.slice none 0 0, .int .i64 0, .int .i64 0] 26 (0, 0)))
  have HG := Aside0.mk (show w.heap.size ≤ w.heap.size ∧ w.heap.size ≤ w.heap.size + 1 ∧ w.heap.size + 1 ≠ w.heap.size from ⟨Nat.le_refl _, Nat.le_succ _, by omega⟩)
  have HW := Aside0.mk hw
  clear hn HF hw
  go_enter Tryd.func40, Tryd.ntmps40
  go_wp2_with (fail)
  rw [HW.out]
  obtain ⟨N, hN⟩ : ∃ N : Nat, N = n + 1 := ⟨_, rfl⟩
  rw [← hN]
  have HNn := Aside0.mk hN
  clear hN HW
  generalize hW2 : (w.alloc (.cells #[.slice none 0 0, .int .i64 0, .int .i64 0] 26 (0, 0))).alloc (.cells #[.slice none 0 0, .int .i64 0, .int .i64 0] 26 (0, 0)) = W2 at HS HB ⊢
  clear hW2
  obtain ⟨gr, hgr⟩ : ∃ gr, gr = w.heap.size := ⟨_, rfl⟩
  obtain ⟨gt, hgt⟩ : ∃ gt, gt = w.heap.size + 1 := ⟨_, rfl⟩
  have HR := Aside0.mk (show W2.heap[gr]? = some (.cells #[.slice none 0 0, .int .i64 0, .int .i64 0] 26 (0, 0)) by rw [hgr]; exact HS.out.1)
  have HT := Aside0.mk (show W2.heap[gt]? = some (.cells #[.slice none 0 0, .int .i64 0, .int .i64 0] 26 (0, 0)) by rw [hgt]; exact HS.out.2)
  have GG := Aside0.mk (show w.heap.size ≤ gr ∧ w.heap.size ≤ gt ∧ gr ≠ gt by omega)
  clear HS HG
  rw [← hgt, ← hgr]
  clear hgt hgr
  obtain ⟨kk, hkk⟩ : ∃ k : Nat, k = N + 1 := ⟨_, rfl⟩
  go_loopg [12] kk (fun kq v12 W => ∃ (i : Nat) (v : Value) (a b : Int) (C : List (S24)), v12 = .int .i64 (i : Int) ∧ Aside0 (i ≤ N ∧ N < i + kq) ∧ Aside0 (kq ≤ kk) ∧ Aside0 (∀ j, j < i → (f j).2.2 = 0) ∧ Aside0 (W.heap[gt]? = some (.cells #[v, .int .i64 a, .int .i64 b] 26 (0, 0))) ∧ Aside0 (W.heap[gr]? = some (.cells #[.slice none 0 0, .int .i64 0, .int .i64 0] 26 (0, 0))) ∧ Aside0 (Kd.R k24 24 W w.heap.size (fun _ => True) v C) ∧ Aside0 (C = (List.range (i - 1)).map (fun q => (⟨(f (q + 1)).1, (f (q + 1)).2.1⟩ : S24)) ∧ (0 < i → a = (f 0).1 ∧ b = (f 0).2.1)) ∧ Aside0 (Below w.heap.size w W))
  case atStart => exact ⟨0, .slice none 0 0, 0, 0, [], rfl, ⟨by omega⟩, ⟨Nat.le_refl _⟩, ⟨fun j hj => absurd hj (by omega)⟩, HT, HR, ⟨Kd.R_nil _ _ _ _ _⟩, ⟨rfl, fun h => absurd h (by omega)⟩, HB⟩
  case round =>
    clear HB HT HR
    obtain ⟨i, v, a, b, C, rfl, HJ, HK, H0, HT, HR, HO, HC, HB⟩ := hrel
    cases gk with
    | zero => exact absurd HJ.out (by omega)
    | succ k1 =>
      by_cases hlt : i < N
      · have d1 : decide ((i : Int) < (N : Int)) = true := decide_eq_true (by omega)
        have d2 : decide (i < N) = true := decide_eq_true hlt
        have hwi : wrap64 ((i : Int) - 1) = (i : Int) - 1 := by have := HN.out; have := HNn.out; unfold wrap64; omega
        have hf := HFA.out i
        rw [← hwi] at hf
        have HFI := Aside0.mk hf
        have HLt := Aside0.mk hlt
        have HWi := Aside0.mk hwi
        clear hf hwi hlt
        obtain ⟨z, hz⟩ : ∃ z, z = f i := ⟨_, rfl⟩
        rw [← hz] at HFI
        have HZ := Aside0.mk hz
        clear hz
        obtain ⟨z0, z1, z2⟩ := z
        simp only at HFI
        go_wp2_with (fail)
        refine (HFI.out _ HB.out).mono ?_
        rintro e W1 ⟨rfl, hb⟩
        have HB1 := Aside0.mk (below_alloc (below_step HB.out hb) (.cells #[.int .i64 z0, .int .i64 z1] 24 (0, 0)))
        have HT1 := Aside0.mk (blk_alloc (blk_below HT.out hb) (.cells #[.int .i64 z0, .int .i64 z1] 24 (0, 0)))
        have HR1 := Aside0.mk (blk_alloc (blk_below HR.out hb) (.cells #[.int .i64 z0, .int .i64 z1] 24 (0, 0)))
        have HO1 := Aside0.mk (Kd.R_alloc (Kd.R_below HO.out hb) (.cells #[.int .i64 z0, .int .i64 z1] 24 (0, 0)))
        have HX1 := Aside0.mk (blk_new W1 (.cells #[.int .i64 z0, .int .i64 z1] 24 (0, 0)))
        have HE := Aside0.mk (show (W1.alloc (.cells #[.int .i64 z0, .int .i64 z1] 24 (0, 0))).heap.size = W1.heap.size + 1 by show (W1.heap.push _).size = _; simp)
        clear hb HB HT HR HO d1 d2
        by_cases hz2 : z2 = 0
        rotate_left
        · have e1 : (z2 == 0) = false := by simp [hz2]
          have e2 : (z2 != 0) = true := by simp [hz2]
          have HZ2 := Aside0.mk hz2
          clear hz2
          have k0 := (blk_cell HR1.out 0).trans rfl
          have k1c := (blk_cell HR1.out 1).trans rfl
          have k2c := (blk_cell HR1.out 2).trans rfl
          have f0 := blk_frozen HR1.out 0
          have f1 := blk_frozen HR1.out 1
          have f2 := blk_frozen HR1.out 2
          go_wp2_with (fail)
          (try simp only [Exit.inBlock, Exit.then])
          refine bodyPost_ret (results_ct rfl _ _ gr 26 #[.slice none 0 0, .int .i64 0, .int .i64 0] (0, 0) _ rfl (blk_put (blk_put (blk_put HR1.out 0 (.slice none 0 0) rfl) 1 (.int .i64 0) rfl) 2 (.int .i64 0) rfl) Tryd.underlying26 rfl (by kernel_rfl)) rfl ?_
          have hbad := each_bad (f := f) (n := n) (i := i) (by have := HLt.out; have := HNn.out; omega) H0.out (by rw [← HZ.out]; exact HZ2.out)
          rw [hbad]
          exact ⟨_, by rw [← HZ.out]; rfl, Kd.R_nil _ _ _ _ _, below_set (below_set (below_set HB1.out GG.out.1) GG.out.1) GG.out.1⟩
        · subst hz2
          have g0 := (blk_cell HT1.out 0).trans rfl
          have g1 := (blk_cell HT1.out 1).trans rfl
          have g2 := (blk_cell HT1.out 2).trans rfl
          have f0 := blk_frozen HT1.out 0
          have f1 := blk_frozen HT1.out 1
          have f2 := blk_frozen HT1.out 2
          have x0 := (blk_cell HX1.out 0).trans rfl
          have x1 := (blk_cell HX1.out 1).trans rfl
          have hall : ∀ j, j < i + 1 → (f j).2.2 = 0 := by
            intro j hj
            by_cases hji : j = i
            · subst hji; rw [← HZ.out]
            · exact H0.out j (by omega)
          have HA := Aside0.mk hall
          clear hall
          have HI2 := Aside0.mk (show i + 1 ≤ N ∧ N < (i + 1) + k1 from ⟨by have := HLt.out; omega, by have := HJ.out; omega⟩)
          have HWs := Aside0.mk (show wrap64 ((i : Int) + 1) = ((i + 1 : Nat) : Int) by have := HLt.out; have := HN.out; have := HNn.out; unfold wrap64; omega)
          by_cases hi0 : i = 0
          · have e3 : ((i : Int) == 0) = true := by simp [hi0]
            have e4 : ((i : Int) != 0) = false := by simp [hi0]
            have e5 : (i == 0) = true := by simp [hi0]
            have HI0 := Aside0.mk hi0
            clear hi0
            go_wp2_with (fail)
            go_roundg k1
            case measure => have := HK.out; omega
            case rel =>
              refine ⟨i + 1, v, z0, z1, C, by rw [HWs.out], ⟨HI2.out⟩, ⟨by have := HK.out; omega⟩, HA, ⟨?_⟩, ⟨?_⟩, ⟨?_⟩, ⟨?_, fun _ => ?_⟩, ⟨?_⟩⟩
              · exact blk_put (blk_put HT1.out 1 (.int .i64 z0) rfl) 2 (.int .i64 z1) rfl
              · exact blk_far (p := ⟨gt, 2, none⟩) (blk_far (p := ⟨gt, 1, none⟩) HR1.out GG.out.2.2 (.int .i64 z0)) GG.out.2.2 (.int .i64 z1)
              · exact Kd.R_set (Kd.R_set HO1.out HT1.out (by decide) 1 (.int .i64 z0)) (blk_set HT1.out 1 (.int .i64 z0)) (by decide) 2 (.int .i64 z1)
              · have := HC.out.1; rw [this, HI0.out]
              · have := HZ.out; rw [HI0.out] at this; rw [← this]; exact ⟨rfl, rfl⟩
              · exact below_set (below_set HB1.out GG.out.2.1) GG.out.2.1
          · have e3 : ((i : Int) == 0) = false := by simp [hi0]
            have e4 : ((i : Int) != 0) = true := by simp [hi0]
            have e5 : (i == 0) = false := by simp [hi0]
            have HI0 := Aside0.mk hi0
            have HCl := Aside0.mk (show C.length < 1000000 by have h9 := HC.out.1; have := HLt.out; have := HN.out; have := HNn.out; rw [h9]; simp; omega)
            clear hi0
            go_wp2_with (first | ((with_reducible refine gate_builtin (b := .append) (xs := #[.tmp 31, .tmp 33]) rfl ?_); at_builtin; refine Kd.R_append k24 (w0 := w) w.heap.size rfl (.tmp 31) (.tmp 33) 22 24 (.agg #[(.int .i64 0), (.int .i64 0)]) 16 rfl Tryd.underlying22 info24 rfl (by decide) (by omega) v C (⟨z0, z1⟩ : S24) [.int .i64 z0, .int .i64 z1] (fun _ => True) (fun _ => False) rfl (by first | rfl | (rw [HE.out]; rfl)) ?aP (fun _ hk => hk.elim) ?aF ?aO ?aB ?aS ?aL ?_; (case aP => exact k24_mkM _ _ _ (⟨z0, z1⟩ : S24)); (case aB => exact HB1.out); (case aF => exact (fun _ _ => trivial)); (case aO => exact HO1.out); (case aS => exact (below_size HB1.out)); (case aL => have := HCl.out; omega); intro v1 w1 ho hb hg hat; obtain ⟨Av, cv, hv1⟩ := Kd.R_slice ho; subst hv1; have HOa := Aside0.mk (show Kd.R k24 24 w1 w.heap.size (fun _ => True) (.slice Av (C.length + 1) cv) (C ++ [(⟨z0, z1⟩ : S24)]) by rw [List.length_append] at ho; exact ho); have HBa := Aside0.mk hb; have HTa := Aside0.mk (blk_grown HT1.out hg (Kd.R_ne HO1.out HT1.out (by decide))); have HRa := Aside0.mk (blk_grown HR1.out hg (Kd.R_ne HO1.out HR1.out (by decide))); clear ho hb hg hat g0 g1 g2 f0 f1 f2 x0 x1; have g0 := (blk_cell HTa.out 0).trans rfl; have f0 := blk_frozen HTa.out 0))
            go_roundg k1
            case measure => have := HK.out; omega
            case rel =>
              refine ⟨i + 1, .slice Av (C.length + 1) cv, a, b, C ++ [⟨z0, z1⟩], by rw [HWs.out], ⟨HI2.out⟩, ⟨by have := HK.out; omega⟩, HA, ⟨?_⟩, ⟨?_⟩, ⟨?_⟩, ⟨?_, fun _ => HC.out.2 (by have := HI0.out; omega)⟩, ⟨?_⟩⟩
              · exact blk_put HTa.out 0 _ rfl
              · exact blk_far (p := ⟨gt, 0, none⟩) HRa.out GG.out.2.2 _
              · exact Kd.R_set HOa.out HTa.out (by decide) 0 _
              · obtain ⟨q, hq⟩ : ∃ q, i = q + 1 := ⟨i - 1, by have := HI0.out; omega⟩
                have h9 := HC.out.1
                have hz := HZ.out
                rw [h9, hq, Nat.add_sub_cancel, Nat.add_sub_cancel, List.range_succ, List.map_append, List.map_cons, List.map_nil]
                rw [hq] at hz
                rw [← hz]
              · exact below_set HBa.out GG.out.2.1
      · have hi : i = N := by have := HJ.out; omega
        obtain ⟨A, c, hv⟩ := Kd.R_slice HO.out
        have hC := HC.out.1
        have hCl : C.length = n := by have := HNn.out; rw [hC, List.length_map, List.length_range]; omega
        obtain ⟨kt, hkt⟩ := Ev.rounds (trim_ev C a b (by have := HN.out; omega))
        have d1 : decide ((i : Int) < (N : Int)) = false := decide_eq_false (by omega)
        have d2 : decide (i < N) = false := decide_eq_false (by omega)
        have ho := HO.out
        rw [hv] at ho
        obtain ⟨_, hcc, hCC⟩ := Kd.R_reads' ho
        have hn1 : n + 1 = N := HNn.out.symm
        have hgood := each_good (f := f) (n := n) (fun j hj => H0.out j (by omega))
        have hab := HC.out.2 (by omega)
        have eL : (List.range (i - 1)).map (fun q => (⟨(f (q + 1)).1, (f (q + 1)).2.1⟩ : S24)) = (List.range n).map (fun q => (⟨(f (q + 1)).1, (f (q + 1)).2.1⟩ : S24)) := by rw [show i - 1 = n by omega]
        rw [← eL, ← hC, ← hab.1, ← hab.2] at hgood
        have HGo := Aside0.mk hgood
        subst hv
        have HT9 := Aside0.mk (fun W (hb : Below wr.heap.size wr W) => term_trim.calls kt A c C a b (trimT C) a b W (Kd.C_below hCC hb) hcc hkt)
        have g0 := (blk_cell HT.out 0).trans rfl
        have g1 := (blk_cell HT.out 1).trans rfl
        have g2 := (blk_cell HT.out 2).trans rfl
        clear hi hC hCl hkt hcc hCC hn1 hgood hab eL ho hlt
        go_wp2_with (fail)
        refine (HT9.out _ (Below.refl _ _)).mono ?_
        rintro e W4 ⟨vr, rfl, ho4, hb4⟩
        obtain ⟨Av, cv, hvr⟩ := Kd.R_slice ho4
        subst hvr
        have HR4 := Aside0.mk (blk_below HR.out hb4)
        have HO4 := Aside0.mk (Kd.R_lower ho4 (below_size HB.out))
        have HB4 := Aside0.mk (below_step HB.out hb4)
        clear ho4 hb4 g0 g1 g2
        have k0 := (blk_cell HR4.out 0).trans rfl
        have k1c := (blk_cell HR4.out 1).trans rfl
        have k2c := (blk_cell HR4.out 2).trans rfl
        have f0 := blk_frozen HR4.out 0
        have f1 := blk_frozen HR4.out 1
        have f2 := blk_frozen HR4.out 2
        go_wp2_with (fail)
        (try simp only [Exit.inBlock, Exit.then])
        refine bodyPost_ret (results_ct rfl _ _ gr 26 #[(.slice Av (trimT C).length cv), .int .i64 a, .int .i64 b] (0, 0) _ rfl (blk_put (blk_put (blk_put HR4.out 0 (.slice Av (trimT C).length cv) rfl) 1 (.int .i64 a) rfl) 2 (.int .i64 b) rfl) Tryd.underlying26 rfl (by kernel_rfl)) rfl ?_
        rw [HGo.out]
        exact ⟨_, rfl, Kd.R_set (Kd.R_set (Kd.R_set HO4.out HR4.out (by decide) 0 (.slice Av (trimT C).length cv)) (blk_set HR4.out 0 (.slice Av (trimT C).length cv)) (by decide) 1 (.int .i64 a)) (blk_set (blk_set HR4.out 0 (.slice Av (trimT C).length cv)) 1 (.int .i64 a)) (by decide) 2 (.int .i64 b), below_set (below_set (below_set HB4.out GG.out.1) GG.out.1) GG.out.1⟩
def addT (l0 : List (S24)) (n0 d0 : Int) (l1 : List (S24)) (n1 d1 : Int) : List (S24) × Int × Int × Int :=
  if (rightT l0 n0 d0 && rightT l1 n1 d1) = true then eachT (addF l0 n0 d0 l1 n1 d1) (max l0.length l1.length) else ([], 0, 0, 2)
def term_Add.f (l0_0 : List (S24)) (a0_1 : Int) (a0_2 : Int) (l1_0 : List (S24)) (a1_1 : Int) (a1_2 : Int) : Option (List (S24) × Int × Int × Int) := if (inAll l0_0 ∧ l0_0.length < 800000 ∧ BallQ.In64 a0_1 ∧ BallQ.In64 a0_2) ∧ inAll l1_0 ∧ l1_0.length < 800000 ∧ BallQ.In64 a1_1 ∧ BallQ.In64 a1_2 then some (addT l0_0 a0_1 a0_2 l1_0 a1_1 a1_2) else none
set_option maxHeartbeats 4000000 in
set_option maxRecDepth 100000 in
theorem term_Add.calls (A0_0 : Option Addr) (c0_0 : Nat) (l0_0 : List (S24)) (a0_1 : Int) (a0_2 : Int) (A1_0 : Option Addr) (c1_0 : Nat) (l1_0 : List (S24)) (a1_1 : Int) (a1_2 : Int) (r1 : List (S24)) (r2 : Int) (r3 : Int) (r4 : Int) (w : World) (hr0_0 : Kd.C k24 w A0_0 l0_0.length l0_0) (hc0_0 : l0_0.length ≤ c0_0) (hr1_0 : Kd.C k24 w A1_0 l1_0.length l1_0) (hc1_0 : l1_0.length ≤ c1_0) (h : term_Add.f l0_0 a0_1 a0_2 l1_0 a1_1 a1_2 = some (r1, r2, r3, r4)) :
    Calls Tryd.prog 19 #[.agg #[.slice A0_0 l0_0.length c0_0, .int .i64 a0_1, .int .i64 a0_2], .agg #[.slice A1_0 l1_0.length c1_0, .int .i64 a1_1, .int .i64 a1_2]] w fun e w' => ∃ v0_ : Value, e = .returned (.tuple #[.agg #[v0_, .int .i64 r2, .int .i64 r3], .int .i64 r4]) ∧ Kd.R k24 24 w' w.heap.size (fun _ => True) v0_ r1 ∧ Below w.heap.size w w' := by
  unfold term_Add.f at h
  split at h
  rotate_left
  · cases h
  rename_i hh
  obtain ⟨⟨hin0, hl0, hn0, hd0⟩, hin1, hl1, hn1, hd1⟩ := hh
  have e := Option.some.inj h
  have e1 : r1 = (addT l0_0 a0_1 a0_2 l1_0 a1_1 a1_2).1 := by rw [e]
  have e2 : r2 = (addT l0_0 a0_1 a0_2 l1_0 a1_1 a1_2).2.1 := by rw [e]
  have e3 : r3 = (addT l0_0 a0_1 a0_2 l1_0 a1_1 a1_2).2.2.1 := by rw [e]
  have e4 : r4 = (addT l0_0 a0_1 a0_2 l1_0 a1_1 a1_2).2.2.2 := by rw [e]
  subst e1 e2 e3 e4
  clear h e
  show Calls Tryd.prog 19 _ w (EachO (addT l0_0 a0_1 a0_2 l1_0 a1_1 a1_2) w)
  have hu26 := Tryd.underlying26
  have W0 : World := w
  have RT0 := Aside0.mk (fun W (hb : Below w.heap.size w W) => term_Right.calls A0_0 c0_0 l0_0 a0_1 a0_2 (rightT l0_0 a0_1 a0_2) W (Kd.C_below hr0_0 hb) hc0_0 (by unfold term_Right.f; rw [if_pos ⟨hin0, by omega, hn0, hd0⟩]))
  have RT1 := Aside0.mk (fun W (hb : Below w.heap.size w W) => term_Right.calls A1_0 c1_0 l1_0 a1_1 a1_2 (rightT l1_0 a1_1 a1_2) W (Kd.C_below hr1_0 hb) hc1_0 (by unfold term_Right.f; rw [if_pos ⟨hin1, by omega, hn1, hd1⟩]))
  have EA := Aside0.mk (show ∀ (m : Nat), m = max l0_0.length l1_0.length → ∀ (ga gb : Nat) (W : World) (hb : Below w.heap.size w W) (ha : W.heap[ga]? = some (.cells #[.slice A0_0 l0_0.length c0_0, .int .i64 a0_1, .int .i64 a0_2] 26 (0, 0))) (hbb : W.heap[gb]? = some (.cells #[.slice A1_0 l1_0.length c1_0, .int .i64 a1_1, .int .i64 a1_2] 26 (0, 0))), Calls Tryd.prog 40 #[.int .i64 (m : Int), .func (.func 41) #[] #[.pointer (some ⟨ga, 0, none⟩), .pointer (some ⟨gb, 0, none⟩)]] W (EachO (eachT (addF l0_0 a0_1 a0_2 l1_0 a1_1 a1_2) (max l0_0.length l1_0.length)) W) from by
    rintro m rfl ga gb W hb ha hbb
    exact term_Add.each41 (addF l0_0 a0_1 a0_2 l1_0 a1_1 a1_2) _ (by omega) ga gb W (fun i W2 hb2 => term_Add.c41 A0_0 c0_0 l0_0 a0_1 a0_2 A1_0 c1_0 l1_0 a1_1 a1_2 ga gb W2 (blk_below ha hb2) (blk_below hbb hb2) (Kd.C_below (Kd.C_below hr0_0 hb) hb2) hc0_0 (Kd.C_below (Kd.C_below hr1_0 hb) hb2) hc1_0 ⟨hin0, hn0, hd0⟩ ⟨hin1, hn1, hd1⟩ i))
  unfold addT
  have HLn := Aside0.mk (And.intro hl0 hl1)
  have S3 := Aside0.mk (three_new w (.cells #[.slice A0_0 l0_0.length c0_0, .int .i64 a0_1, .int .i64 a0_2] 26 (0, 0)) (.cells #[.slice A1_0 l1_0.length c1_0, .int .i64 a1_1, .int .i64 a1_2] 26 (0, 0)) (.cells #[.slice none 0 0, .int .i64 0, .int .i64 0] 26 (0, 0)))
  have HB := Aside0.mk (below_alloc (below_alloc (below_alloc (Below.refl w.heap.size w) (.cells #[.slice A0_0 l0_0.length c0_0, .int .i64 a0_1, .int .i64 a0_2] 26 (0, 0))) (.cells #[.slice A1_0 l1_0.length c1_0, .int .i64 a1_1, .int .i64 a1_2] 26 (0, 0))) (.cells #[.slice none 0 0, .int .i64 0, .int .i64 0] 26 (0, 0)))
  have GE := Aside0.mk (show w.heap.size ≤ w.heap.size + 1 + 1 ∧ w.heap.size + 1 + 1 ≠ w.heap.size ∧ w.heap.size + 1 + 1 ≠ w.heap.size + 1 by omega)
  clear hin0 hl0 hn0 hd0 hin1 hl1 hn1 hd1 hr0_0 hc0_0 hr1_0 hc1_0 W0
  generalize rightT l0_0 a0_1 a0_2 = b0 at RT0 ⊢
  generalize rightT l1_0 a1_1 a1_2 = b1 at RT1 ⊢
  generalize eachT (addF l0_0 a0_1 a0_2 l1_0 a1_1 a1_2) (max l0_0.length l1_0.length) = RR at EA ⊢
  cases b0 with
  | false =>
    show Calls Tryd.prog 19 _ w (EachO ([], 0, 0, 2) w)
    go_enter Tryd.func19, Tryd.ntmps19
    go_wp2_with (fail)
    refine (RT0.out _ HB.out).mono ?_
    rintro e W1 ⟨rfl, hb⟩
    have HB1 := Aside0.mk (below_step HB.out hb)
    have HR1 := Aside0.mk (blk_below S3.out.2.2 hb)
    clear hb HB S3
    have k0 := (blk_cell HR1.out 0).trans rfl
    have k1c := (blk_cell HR1.out 1).trans rfl
    have k2c := (blk_cell HR1.out 2).trans rfl
    have f0 := blk_frozen HR1.out 0
    have f1 := blk_frozen HR1.out 1
    have f2 := blk_frozen HR1.out 2
    go_wp2_with (fail)
    (try simp only [Exit.inBlock, Exit.then])
    refine bodyPost_ret (results_ct rfl _ _ (w.heap.size + 1 + 1) 26 #[.slice none 0 0, .int .i64 0, .int .i64 0] (0, 0) _ rfl (blk_put (blk_put (blk_put HR1.out 0 (.slice none 0 0) rfl) 1 (.int .i64 0) rfl) 2 (.int .i64 0) rfl) Tryd.underlying26 rfl (by kernel_rfl)) rfl ?_
    exact ⟨_, rfl, Kd.R_nil _ _ _ _ _, below_set (below_set (below_set HB1.out GE.out.1) GE.out.1) GE.out.1⟩
  | true =>
   cases b1 with
   | false =>
    show Calls Tryd.prog 19 _ w (EachO ([], 0, 0, 2) w)
    go_enter Tryd.func19, Tryd.ntmps19
    go_wp2_with (fail)
    refine (RT0.out _ HB.out).mono ?_
    rintro e W1 ⟨rfl, hb⟩
    have HB1 := Aside0.mk (below_step HB.out hb)
    have HA1 := Aside0.mk (blk_below S3.out.1 hb)
    have HD1 := Aside0.mk (blk_below S3.out.2.1 hb)
    have HR1 := Aside0.mk (blk_below S3.out.2.2 hb)
    clear hb HB S3
    have p0 := (blk_cell HD1.out 0).trans rfl
    have p1 := (blk_cell HD1.out 1).trans rfl
    have p2 := (blk_cell HD1.out 2).trans rfl
    go_wp2_with (fail)
    refine (RT1.out _ HB1.out).mono ?_
    rintro e W2 ⟨rfl, hb⟩
    have HB2 := Aside0.mk (below_step HB1.out hb)
    have HA2 := Aside0.mk (blk_below HA1.out hb)
    have HD2 := Aside0.mk (blk_below HD1.out hb)
    have HR2 := Aside0.mk (blk_below HR1.out hb)
    clear hb HB1 HA1 HD1 HR1 p0 p1 p2
    have k0 := (blk_cell HR2.out 0).trans rfl
    have k1c := (blk_cell HR2.out 1).trans rfl
    have k2c := (blk_cell HR2.out 2).trans rfl
    have f0 := blk_frozen HR2.out 0
    have f1 := blk_frozen HR2.out 1
    have f2 := blk_frozen HR2.out 2
    go_wp2_with (fail)
    (try simp only [Exit.inBlock, Exit.then])
    refine bodyPost_ret (results_ct rfl _ _ (w.heap.size + 1 + 1) 26 #[.slice none 0 0, .int .i64 0, .int .i64 0] (0, 0) _ rfl (blk_put (blk_put (blk_put HR2.out 0 (.slice none 0 0) rfl) 1 (.int .i64 0) rfl) 2 (.int .i64 0) rfl) Tryd.underlying26 rfl (by kernel_rfl)) rfl ?_
    exact ⟨_, rfl, Kd.R_nil _ _ _ _ _, below_set (below_set (below_set HB2.out GE.out.1) GE.out.1) GE.out.1⟩
   | true =>
    show Calls Tryd.prog 19 _ w (EachO RR w)
    go_enter Tryd.func19, Tryd.ntmps19
    go_wp2_with (fail)
    refine (RT0.out _ HB.out).mono ?_
    rintro e W1 ⟨rfl, hb⟩
    have HB1 := Aside0.mk (below_step HB.out hb)
    have HA1 := Aside0.mk (blk_below S3.out.1 hb)
    have HD1 := Aside0.mk (blk_below S3.out.2.1 hb)
    have HR1 := Aside0.mk (blk_below S3.out.2.2 hb)
    clear hb HB S3
    have p0 := (blk_cell HD1.out 0).trans rfl
    have p1 := (blk_cell HD1.out 1).trans rfl
    have p2 := (blk_cell HD1.out 2).trans rfl
    go_wp2_with (fail)
    refine (RT1.out _ HB1.out).mono ?_
    rintro e W2 ⟨rfl, hb⟩
    have HB2 := Aside0.mk (below_step HB1.out hb)
    have HA2 := Aside0.mk (blk_below HA1.out hb)
    have HD2 := Aside0.mk (blk_below HD1.out hb)
    have HR2 := Aside0.mk (blk_below HR1.out hb)
    clear hb HB1 HA1 HD1 HR1 p0 p1 p2
    have q0 := (blk_cell HA2.out 0).trans rfl
    have p0 := (blk_cell HD2.out 0).trans rfl
    go_wp2_with (fail)
    · refine (EA.out l1_0.length (by omega) _ _ _ HB2.out HA2.out HD2.out).mono ?_
      rintro e W3 ⟨vr, rfl, ho, hb⟩
      obtain ⟨Av, cv, hvr⟩ := Kd.R_slice ho
      subst hvr
      have HO3 := Aside0.mk (Kd.R_lower ho (below_size HB2.out))
      have HB3 := Aside0.mk (below_step HB2.out hb)
      have HR3 := Aside0.mk (blk_below HR2.out hb)
      clear hb ho p0 q0 HB2 HA2 HD2 HR2
      have k0 := (blk_cell HR3.out 0).trans rfl
      have k1c := (blk_cell HR3.out 1).trans rfl
      have k2c := (blk_cell HR3.out 2).trans rfl
      have f0 := blk_frozen HR3.out 0
      have f1 := blk_frozen HR3.out 1
      have f2 := blk_frozen HR3.out 2
      go_wp2_with (fail)
      (try simp only [Exit.inBlock, Exit.then])
      refine bodyPost_ret (results_ct rfl _ _ (w.heap.size + 1 + 1) 26 #[.slice Av RR.1.length cv, .int .i64 RR.2.1, .int .i64 RR.2.2.1] (0, 0) _ rfl (blk_put (blk_put (blk_put HR3.out 0 (.slice Av RR.1.length cv) rfl) 1 (.int .i64 RR.2.1) rfl) 2 (.int .i64 RR.2.2.1) rfl) Tryd.underlying26 rfl (by kernel_rfl)) rfl ?_
      exact ⟨_, rfl, Kd.R_set (Kd.R_set (Kd.R_set HO3.out HR3.out (by decide) 0 _) (blk_set HR3.out 0 _) (by decide) 1 (.int .i64 RR.2.1)) (blk_set (blk_set HR3.out 0 _) 1 (.int .i64 RR.2.1)) (by decide) 2 (.int .i64 RR.2.2.1), below_set (below_set (below_set HB3.out GE.out.1) GE.out.1) GE.out.1⟩
    · refine (EA.out l0_0.length (by omega) _ _ _ HB2.out HA2.out HD2.out).mono ?_
      rintro e W3 ⟨vr, rfl, ho, hb⟩
      obtain ⟨Av, cv, hvr⟩ := Kd.R_slice ho
      subst hvr
      have HO3 := Aside0.mk (Kd.R_lower ho (below_size HB2.out))
      have HB3 := Aside0.mk (below_step HB2.out hb)
      have HR3 := Aside0.mk (blk_below HR2.out hb)
      clear hb ho p0 q0 HB2 HA2 HD2 HR2
      have k0 := (blk_cell HR3.out 0).trans rfl
      have k1c := (blk_cell HR3.out 1).trans rfl
      have k2c := (blk_cell HR3.out 2).trans rfl
      have f0 := blk_frozen HR3.out 0
      have f1 := blk_frozen HR3.out 1
      have f2 := blk_frozen HR3.out 2
      go_wp2_with (fail)
      (try simp only [Exit.inBlock, Exit.then])
      refine bodyPost_ret (results_ct rfl _ _ (w.heap.size + 1 + 1) 26 #[.slice Av RR.1.length cv, .int .i64 RR.2.1, .int .i64 RR.2.2.1] (0, 0) _ rfl (blk_put (blk_put (blk_put HR3.out 0 (.slice Av RR.1.length cv) rfl) 1 (.int .i64 RR.2.1) rfl) 2 (.int .i64 RR.2.2.1) rfl) Tryd.underlying26 rfl (by kernel_rfl)) rfl ?_
      exact ⟨_, rfl, Kd.R_set (Kd.R_set (Kd.R_set HO3.out HR3.out (by decide) 0 _) (blk_set HR3.out 0 _) (by decide) 1 (.int .i64 RR.2.1)) (blk_set (blk_set HR3.out 0 _) 1 (.int .i64 RR.2.1)) (by decide) 2 (.int .i64 RR.2.2.1), below_set (below_set (below_set HB3.out GE.out.1) GE.out.1) GE.out.1⟩
end Go.Proofs.YtijhnmbegceonaaDoor.PTerm
