-- Written by a program of this session (wip/myprint.py).
import Derived.Test.YtpcdcanmbokpfaaPPHx0
import Derived.Test.YtpcdcanmbokpfaaPPHx3
import Derived.Test.YtpcdcanmbokpfaaPPHx6
import Derived.Test.YtpcdcanmbokpfaaPPHx12
namespace Go.Proofs.Ytpcdcanmbokpfaa.PPH
open Go.RowKit Go.Proofs.YtpcdcanmbokpfaaW.PrintWords Go.Proofs.YtpcdcanmbokpfaaW.PrintLast Go.Proofs.YtpcdcanmbokpfaaW.PrintMore
attribute [local go_sem] max2_int min2_int max_two min_two max_three min_three max_four min_four   -- for this text's walks alone
set_option linter.unusedVariables false
set_option linter.unusedSimpArgs false

/-! ### perm_parts: function 39 -/
def perm_parts.f (k : Nat) (a0_0 : Int) (a0_1 : Int) (a1_0 : Int) (a1_1 : Int) : Option (Int × Int × Int × Int × Int) := (perm_one.f).bind fun bt189 => ((rat_Sub.f k bt189.1 bt189.2 a1_0 a1_1).bind fun bt191 => (if bt191.2.2 = 0 then ((rat_Mul.f k a0_0 a0_1 bt191.1 bt191.2.1).bind fun bt195 => (if bt195.2.2 = 0 then ((rat_Mul.f k a0_0 a0_1 a1_0 a1_1).bind fun bt199 => (some (bt195.1, bt195.2.1, bt199.1, bt199.2.1, bt199.2.2))) else (some (bt195.1, bt195.2.1, a1_0, a1_1, bt195.2.2)))) else (some (bt191.1, bt191.2.1, a1_0, a1_1, bt191.2.2))))
theorem perm_parts.mono : ∀ a0 a1 a2 a3 k, LeO (perm_parts.f k a0 a1 a2 a3) (perm_parts.f (k + 1) a0 a1 a2 a3) := by
 intro a0 a1 a2 a3 k
 unfold perm_parts.f
 repeat' first
   | (with_reducible exact rat_Mul.mono _ _ _ _ _)
   | (with_reducible exact rat_Sub.mono _ _ _ _ _)
   | (with_reducible exact LeO.refl _)
   | (with_reducible exact LeO.none _)
   | (with_reducible refine LeO.ite ?_ ?_)
   | (with_reducible refine LeO.bind ?_ (fun _ => ?_))
   | exact rat_Mul.mono _ _ _ _ _
   | exact rat_Sub.mono _ _ _ _ _
   | exact LeO.none _
   | refine LeO.ite ?_ ?_
   | refine LeO.bind ?_ (fun _ => ?_)
def perm_parts.T1 : Bool × List (List Nat × List Nat) := (true, [([], []), ([], []), ([0, 1, 0], [0, 1]), ([2], [2]), ([3], [3]), ([3], [3]), ([], []), ([6, 4, 2, 0, 1, 2, 3, 4, 6], [4, 6]), ([5, 7, 0, 1, 2, 3, 4, 5, 6, 7], [5])])
def perm_parts.B1 : List Nat := [0, 0, 3, 7, 15, 15, 0, 95, 255]
theorem perm_parts.tab1 : rtab .any (opsOf Try.f39 1) = perm_parts.T1 := by kernel_rfl
theorem perm_parts.bits1 : waitsOk perm_parts.T1.2 perm_parts.B1 = true := by kernel_rfl
set_option maxHeartbeats 8000000 in
set_option maxRecDepth 100000 in
theorem perm_parts.calls (k : Nat) (a0_0 : Int) (a0_1 : Int) (a1_0 : Int) (a1_1 : Int) (r1 : Int) (r2 : Int) (r3 : Int) (r4 : Int) (r5 : Int) (w : World) (h : perm_parts.f k a0_0 a0_1 a1_0 a1_1 = some (r1, r2, r3, r4, r5)) :
  Calls Try.prog 39 #[.agg #[.int .i64 a0_0, .int .i64 a0_1], .agg #[.int .i64 a1_0, .int .i64 a1_1]] w fun e w' => e = .returned (.tuple #[.agg #[.int .i64 r1, .int .i64 r2], .agg #[.int .i64 r3, .int .i64 r4], .int .i64 r5]) ∧ Below w.heap.size w w' := by
 have hu23 := Try.underlying23
 have HB := Aside0.mk (Below.refl w.heap.size w)
 have H : ((perm_one.f).bind fun bt189 => ((rat_Sub.f k bt189.1 bt189.2 a1_0 a1_1).bind fun bt191 => (if bt191.2.2 = 0 then ((rat_Mul.f k a0_0 a0_1 bt191.1 bt191.2.1).bind fun bt195 => (if bt195.2.2 = 0 then ((rat_Mul.f k a0_0 a0_1 a1_0 a1_1).bind fun bt199 => (some (bt195.1, bt195.2.1, bt199.1, bt199.2.1, bt199.2.2))) else (some (bt195.1, bt195.2.1, a1_0, a1_1, bt195.2.2)))) else (some (bt191.1, bt191.2.1, a1_0, a1_1, bt191.2.2))))) = some (r1, r2, r3, r4, r5) := h
 clear h
 replace H := Option.bind_eq_some_iff.mp H
 obtain ⟨⟨t189, t190⟩, A30, H⟩ := H
 replace H : ((rat_Sub.f k t189 t190 a1_0 a1_1).bind fun bt191 => (if bt191.2.2 = 0 then ((rat_Mul.f k a0_0 a0_1 bt191.1 bt191.2.1).bind fun bt195 => (if bt195.2.2 = 0 then ((rat_Mul.f k a0_0 a0_1 a1_0 a1_1).bind fun bt199 => (some (bt195.1, bt195.2.1, bt199.1, bt199.2.1, bt199.2.2))) else (some (bt195.1, bt195.2.1, a1_0, a1_1, bt195.2.2)))) else (some (bt191.1, bt191.2.1, a1_0, a1_1, bt191.2.2)))) = some (r1, r2, r3, r4, r5) := H
 have A3 := Aside0.mk A30
 clear A30
 replace H := Option.bind_eq_some_iff.mp H
 obtain ⟨⟨t191, t192, t193⟩, A40, H⟩ := H
 replace H : (if t193 = 0 then ((rat_Mul.f k a0_0 a0_1 t191 t192).bind fun bt195 => (if bt195.2.2 = 0 then ((rat_Mul.f k a0_0 a0_1 a1_0 a1_1).bind fun bt199 => (some (bt195.1, bt195.2.1, bt199.1, bt199.2.1, bt199.2.2))) else (some (bt195.1, bt195.2.1, a1_0, a1_1, bt195.2.2)))) else (some (t191, t192, a1_0, a1_1, t193))) = some (r1, r2, r3, r4, r5) := H
 have A4 := Aside0.mk A40
 clear A40
 by_cases c5 : t193 = 0
 ·rw [if_pos c5] at H
  have c5b0 : (t193 == 0) = true := beq_iff_eq.mpr c5
  have c5b1 : (t193 != 0) = false := bne_eq_false_iff_eq.mpr c5
  clear c5
  replace H := Option.bind_eq_some_iff.mp H
  obtain ⟨⟨t195, t196, t197⟩, A60, H⟩ := H
  replace H : (if t197 = 0 then ((rat_Mul.f k a0_0 a0_1 a1_0 a1_1).bind fun bt199 => (some (t195, t196, bt199.1, bt199.2.1, bt199.2.2))) else (some (t195, t196, a1_0, a1_1, t197))) = some (r1, r2, r3, r4, r5) := H
  have A6 := Aside0.mk A60
  clear A60
  by_cases c7 : t197 = 0
  ·rw [if_pos c7] at H
   have c7b0 : (t197 == 0) = true := beq_iff_eq.mpr c7
   have c7b1 : (t197 != 0) = false := bne_eq_false_iff_eq.mpr c7
   clear c7
   replace H := Option.bind_eq_some_iff.mp H
   obtain ⟨⟨t199, t200, t201⟩, A80, H⟩ := H
   replace H : (some (t195, t196, t199, t200, t201)) = some (r1, r2, r3, r4, r5) := H
   have A8 := Aside0.mk A80
   clear A80
   simp only [Option.some.injEq, Prod.mk.injEq] at H
   obtain ⟨rfl, rfl, rfl, rfl, rfl⟩ := H
   go_enter Try.func39, Try.ntmps39
   try go_wp2_with (first | ((with_reducible refine gate_dst (N := 2) rfl ?_); refine box_event ?hg (N := 2) ?hd (cs := #[.int .i64 a0_0, .int .i64 a0_1]) (t := 23) ?hr ?_; (case hd => rfl); (case hg => rfl); (case hr => first | (go_simp; done) | (go_simp; rfl)); intro gb185 hg w9 hbox hb; have n0_ := Aside0.mk (below_step (by repeat (first | (with_reducible first | exact HB.out | apply below_alloc | apply pw_below_drewN | apply below_drew1) | exact HB.out)) hb); have n1_ := Aside0.mk (hbox); have n2_ := Aside0.mk ((by rw [hg]; exact (below_size (by repeat (first | (with_reducible first | exact HB.out | apply below_alloc | apply pw_below_drewN | apply below_drew1) | exact HB.out))) : w.heap.size ≤ gb185)); have n3_ := Aside0.mk ((by rw [hg]; exact (below_size (by repeat (first | (with_reducible first | exact HB.out | apply below_alloc | apply pw_below_drewN | apply below_drew1) | exact HB.out))) : w.heap.size ≤ gb185)); clear HB; have HB := n0_; have BK185 := n1_; have GW185 := n2_; have GE185 := n3_; clear n0_ n1_ n2_ n3_; clear hb hbox hg) | ((with_reducible refine gate_dst (N := 3) rfl ?_); refine box_event ?hg (N := 3) ?hd (cs := #[.int .i64 a1_0, .int .i64 a1_1]) (t := 23) ?hr ?_; (case hd => rfl); (case hg => rfl); (case hr => first | (go_simp; done) | (go_simp; rfl)); intro gb186 hg w10 hbox hb; have n0_ := Aside0.mk (blk_below (g := gb185) (o := .cells #[.int .i64 a0_0, .int .i64 a0_1] 23 (0, 0)) (by (with_reducible repeat (first | apply blk_drewN | apply blk_drew | apply blk_alloc)); exact BK185.out) hb); have n1_ := Aside0.mk (below_step (by repeat (first | (with_reducible first | exact HB.out | apply below_alloc | apply pw_below_drewN | apply below_drew1 | refine below_set ?_ GE185.out) | exact HB.out)) hb); have n2_ := Aside0.mk (hbox); have n3_ := Aside0.mk ((by rw [hg]; exact (below_size (by repeat (first | (with_reducible first | exact HB.out | apply below_alloc | apply pw_below_drewN | apply below_drew1 | refine below_set ?_ GE185.out) | exact HB.out))) : w.heap.size ≤ gb186)); have n4_ := Aside0.mk ((by rw [hg]; exact (below_size (by repeat (first | (with_reducible first | exact HB.out | apply below_alloc | apply pw_below_drewN | apply below_drew1 | refine below_set ?_ GE185.out) | exact HB.out))) : w.heap.size ≤ gb186)); have n5_ := Aside0.mk ((by rw [hg]; exact Nat.ne_of_lt (blk_lt (g := gb185) (o := .cells #[.int .i64 a0_0, .int .i64 a0_1] 23 (0, 0)) (by (with_reducible repeat (first | apply blk_drewN | apply blk_drew | apply blk_alloc)); exact BK185.out)) : gb185 ≠ gb186)); have n6_ := Aside0.mk ((by rw [hg]; exact Nat.ne_of_gt (blk_lt (g := gb185) (o := .cells #[.int .i64 a0_0, .int .i64 a0_1] 23 (0, 0)) (by (with_reducible repeat (first | apply blk_drewN | apply blk_drew | apply blk_alloc)); exact BK185.out)) : gb186 ≠ gb185)); clear BK185; clear HB; have BK185 := n0_; have HB := n1_; have BK186 := n2_; have GW186 := n3_; have GE186 := n4_; have NB185_186 := n5_; have NB186_185 := n6_; clear n0_ n1_ n2_ n3_ n4_ n5_ n6_; clear hb hbox hg) | ((with_reducible refine gate_dst (N := 4) rfl ?_); refine box_event ?hg (N := 4) ?hd (cs := #[.int .i64 0, .int .i64 0]) (t := 23) ?hr ?_; (case hd => rfl); (case hg => rfl); (case hr => first | (go_simp; done) | (go_simp; rfl)); intro gb187 hg w11 hbox hb; have n0_ := Aside0.mk (blk_below (g := gb185) (o := .cells #[.int .i64 a0_0, .int .i64 a0_1] 23 (0, 0)) (by (with_reducible repeat (first | apply blk_drewN | apply blk_drew | apply blk_alloc)); exact BK185.out) hb); have n1_ := Aside0.mk (blk_below (g := gb186) (o := .cells #[.int .i64 a1_0, .int .i64 a1_1] 23 (0, 0)) (by (with_reducible repeat (first | apply blk_drewN | apply blk_drew | apply blk_alloc)); exact BK186.out) hb); have n2_ := Aside0.mk (below_step (by repeat (first | (with_reducible first | exact HB.out | apply below_alloc | apply pw_below_drewN | apply below_drew1 | refine below_set ?_ GE185.out | refine below_set ?_ GE186.out) | exact HB.out)) hb); have n3_ := Aside0.mk (hbox); have n4_ := Aside0.mk ((by rw [hg]; exact (below_size (by repeat (first | (with_reducible first | exact HB.out | apply below_alloc | apply pw_below_drewN | apply below_drew1 | refine below_set ?_ GE185.out | refine below_set ?_ GE186.out) | exact HB.out))) : w.heap.size ≤ gb187)); have n5_ := Aside0.mk ((by rw [hg]; exact (below_size (by repeat (first | (with_reducible first | exact HB.out | apply below_alloc | apply pw_below_drewN | apply below_drew1 | refine below_set ?_ GE185.out | refine below_set ?_ GE186.out) | exact HB.out))) : w.heap.size ≤ gb187)); have n6_ := Aside0.mk ((by rw [hg]; exact Nat.ne_of_lt (blk_lt (g := gb185) (o := .cells #[.int .i64 a0_0, .int .i64 a0_1] 23 (0, 0)) (by (with_reducible repeat (first | apply blk_drewN | apply blk_drew | apply blk_alloc)); exact BK185.out)) : gb185 ≠ gb187)); have n7_ := Aside0.mk ((by rw [hg]; exact Nat.ne_of_gt (blk_lt (g := gb185) (o := .cells #[.int .i64 a0_0, .int .i64 a0_1] 23 (0, 0)) (by (with_reducible repeat (first | apply blk_drewN | apply blk_drew | apply blk_alloc)); exact BK185.out)) : gb187 ≠ gb185)); have n8_ := Aside0.mk ((by rw [hg]; exact Nat.ne_of_lt (blk_lt (g := gb186) (o := .cells #[.int .i64 a1_0, .int .i64 a1_1] 23 (0, 0)) (by (with_reducible repeat (first | apply blk_drewN | apply blk_drew | apply blk_alloc)); exact BK186.out)) : gb186 ≠ gb187)); have n9_ := Aside0.mk ((by rw [hg]; exact Nat.ne_of_gt (blk_lt (g := gb186) (o := .cells #[.int .i64 a1_0, .int .i64 a1_1] 23 (0, 0)) (by (with_reducible repeat (first | apply blk_drewN | apply blk_drew | apply blk_alloc)); exact BK186.out)) : gb187 ≠ gb186)); clear BK185; clear BK186; clear HB; have BK185 := n0_; have BK186 := n1_; have HB := n2_; have BK187 := n3_; have GW187 := n4_; have GE187 := n5_; have NB185_187 := n6_; have NB187_185 := n7_; have NB186_187 := n8_; have NB187_186 := n9_; clear n0_ n1_ n2_ n3_ n4_ n5_ n6_ n7_ n8_ n9_; clear hb hbox hg) | ((with_reducible refine gate_dst (N := 5) rfl ?_); refine box_event ?hg (N := 5) ?hd (cs := #[.int .i64 0, .int .i64 0]) (t := 23) ?hr ?_; (case hd => rfl); (case hg => rfl); (case hr => first | (go_simp; done) | (go_simp; rfl)); intro gb188 hg w12 hbox hb; have n0_ := Aside0.mk (blk_below (g := gb185) (o := .cells #[.int .i64 a0_0, .int .i64 a0_1] 23 (0, 0)) (by (with_reducible repeat (first | apply blk_drewN | apply blk_drew | apply blk_alloc)); exact BK185.out) hb); have n1_ := Aside0.mk (blk_below (g := gb186) (o := .cells #[.int .i64 a1_0, .int .i64 a1_1] 23 (0, 0)) (by (with_reducible repeat (first | apply blk_drewN | apply blk_drew | apply blk_alloc)); exact BK186.out) hb); have n2_ := Aside0.mk (blk_below (g := gb187) (o := .cells #[.int .i64 0, .int .i64 0] 23 (0, 0)) (by (with_reducible repeat (first | apply blk_drewN | apply blk_drew | apply blk_alloc)); exact BK187.out) hb); have n3_ := Aside0.mk (below_step (by repeat (first | (with_reducible first | exact HB.out | apply below_alloc | apply pw_below_drewN | apply below_drew1 | refine below_set ?_ GE185.out | refine below_set ?_ GE186.out | refine below_set ?_ GE187.out) | exact HB.out)) hb); have n4_ := Aside0.mk (hbox); have n5_ := Aside0.mk ((by rw [hg]; exact (below_size (by repeat (first | (with_reducible first | exact HB.out | apply below_alloc | apply pw_below_drewN | apply below_drew1 | refine below_set ?_ GE185.out | refine below_set ?_ GE186.out | refine below_set ?_ GE187.out) | exact HB.out))) : w.heap.size ≤ gb188)); have n6_ := Aside0.mk ((by rw [hg]; exact (below_size (by repeat (first | (with_reducible first | exact HB.out | apply below_alloc | apply pw_below_drewN | apply below_drew1 | refine below_set ?_ GE185.out | refine below_set ?_ GE186.out | refine below_set ?_ GE187.out) | exact HB.out))) : w.heap.size ≤ gb188)); have n7_ := Aside0.mk ((by rw [hg]; exact Nat.ne_of_lt (blk_lt (g := gb185) (o := .cells #[.int .i64 a0_0, .int .i64 a0_1] 23 (0, 0)) (by (with_reducible repeat (first | apply blk_drewN | apply blk_drew | apply blk_alloc)); exact BK185.out)) : gb185 ≠ gb188)); have n8_ := Aside0.mk ((by rw [hg]; exact Nat.ne_of_gt (blk_lt (g := gb185) (o := .cells #[.int .i64 a0_0, .int .i64 a0_1] 23 (0, 0)) (by (with_reducible repeat (first | apply blk_drewN | apply blk_drew | apply blk_alloc)); exact BK185.out)) : gb188 ≠ gb185)); have n9_ := Aside0.mk ((by rw [hg]; exact Nat.ne_of_lt (blk_lt (g := gb186) (o := .cells #[.int .i64 a1_0, .int .i64 a1_1] 23 (0, 0)) (by (with_reducible repeat (first | apply blk_drewN | apply blk_drew | apply blk_alloc)); exact BK186.out)) : gb186 ≠ gb188)); have n10_ := Aside0.mk ((by rw [hg]; exact Nat.ne_of_gt (blk_lt (g := gb186) (o := .cells #[.int .i64 a1_0, .int .i64 a1_1] 23 (0, 0)) (by (with_reducible repeat (first | apply blk_drewN | apply blk_drew | apply blk_alloc)); exact BK186.out)) : gb188 ≠ gb186)); have n11_ := Aside0.mk ((by rw [hg]; exact Nat.ne_of_lt (blk_lt (g := gb187) (o := .cells #[.int .i64 0, .int .i64 0] 23 (0, 0)) (by (with_reducible repeat (first | apply blk_drewN | apply blk_drew | apply blk_alloc)); exact BK187.out)) : gb187 ≠ gb188)); have n12_ := Aside0.mk ((by rw [hg]; exact Nat.ne_of_gt (blk_lt (g := gb187) (o := .cells #[.int .i64 0, .int .i64 0] 23 (0, 0)) (by (with_reducible repeat (first | apply blk_drewN | apply blk_drew | apply blk_alloc)); exact BK187.out)) : gb188 ≠ gb187)); clear BK185; clear BK186; clear BK187; clear HB; have BK185 := n0_; have BK186 := n1_; have BK187 := n2_; have HB := n3_; have BK188 := n4_; have GW188 := n5_; have GE188 := n6_; have NB185_188 := n7_; have NB188_185 := n8_; have NB186_188 := n9_; have NB188_186 := n10_; have NB187_188 := n11_; have NB188_187 := n12_; clear n0_ n1_ n2_ n3_ n4_ n5_ n6_ n7_ n8_ n9_ n10_ n11_ n12_; clear hb hbox hg))
   have n0_ := Aside0.mk (blk_drew BK185.out)
   have n1_ := Aside0.mk (blk_drew BK186.out)
   have n2_ := Aside0.mk (blk_drew BK187.out)
   have n3_ := Aside0.mk (blk_drew BK188.out)
   have n4_ := Aside0.mk (below_drew1 HB.out)
   clear BK185
   clear BK186
   clear BK187
   clear BK188
   clear HB
   have BK185 := n0_
   have BK186 := n1_
   have BK187 := n2_
   have BK188 := n3_
   have HB := n4_
   clear n0_ n1_ n2_ n3_ n4_
   refine start_ (n := 9) (S := fun w' => w'.cell? ⟨gb186, 0, none⟩ = some (.int .i64 a1_0) ∧ w'.cell? ⟨gb186, 1, none⟩ = some (.int .i64 a1_1)) (ds := []) #[false, false, false, false, false, false, false, false, false] (by kernel_rfl) rfl rfl ⟨(blk_cell BK186.out 0).trans rfl, (blk_cell BK186.out 1).trans rfl⟩ (fun hHeld => ?_); refine with_tabW perm_parts.tab1 perm_parts.bits1 (fun HT_ HW_ => ?_)
   generalize w12.drew = w13 at BK185 BK186 BK187 BK188 HB hHeld ⊢
   refine take_ (i := 1) (N := some 13) (v := ?_) (a' := ?_) #[false, true, false, false, false, false, false, false, false] rfl rfl (take_ofW HT_.out HW_.out (by kernel_rfl)) (fun _ _ _ h => h) (Or.inl ⟨by rfl, ?_⟩) hHeld ?_ ?_
   rotate_left
   ·rintro w' ⟨s0, s1⟩
    go_simp
    with_reducible rfl
   rotate_left
   ·simp only [Act.put, List.setIfInBounds_toArray, List.set_cons_zero, List.set_cons_succ, i64_w, i32_w]
    rfl
   refine join_ (σ := Nat) 2 #[true, true, true, true, true, true, true, false, false] (fun s_ => [(12, .agg #[.int .i64 t189, .int .i64 t190]), (14, .tuple #[.agg #[.int .i64 t191, .int .i64 t192], .int .i64 t193]), (7, .pointer (some ⟨s_, 0, none⟩)), (11, .tuple #[.agg #[.int .i64 t191, .int .i64 t192], .int .i64 t193]), (15, .agg #[.int .i64 t191, .int .i64 t192]), (16, .int .i64 t193)]) (fun s_ w' => (w'.cell? ⟨gb186, 0, none⟩ = some (.int .i64 a1_0) ∧ w'.cell? ⟨gb186, 1, none⟩ = some (.int .i64 a1_1)) ∧ (w'.heap[gb185]? = some (.cells #[.int .i64 a0_0, .int .i64 a0_1] 23 (0, 0))) ∧ (w'.heap[gb186]? = some (.cells #[.int .i64 a1_0, .int .i64 a1_1] 23 (0, 0))) ∧ (w'.heap[gb187]? = some (.cells #[.int .i64 0, .int .i64 0] 23 (0, 0))) ∧ (w'.heap[gb188]? = some (.cells #[.int .i64 0, .int .i64 0] 23 (0, 0))) ∧ (w'.heap[s_]? = some (.cells #[.int .i64 0, .int .i64 0] 23 (0, 0))) ∧ (w.heap.size ≤ s_) ∧ (w.heap.size ≤ s_) ∧ (gb185 ≠ s_) ∧ (s_ ≠ gb185) ∧ (gb186 ≠ s_) ∧ (s_ ≠ gb186) ∧ (gb187 ≠ s_) ∧ (s_ ≠ gb187) ∧ (gb188 ≠ s_) ∧ (s_ ≠ gb188) ∧ (Below w.heap.size w w')) ?_ ?_
   rotate_left
   ·intro hCont
    refine two_ (i := 0) (j := 6) (Ni := some 12) (Nj := some 7) #[true, true, false, false, false, false, false, false, false] #[false, true, false, false, false, false, true, false, false] rfl rfl rfl rfl (two_of HT_.out (by kernel_rfl)) (by decide) (by decide) (fun K hK => ?_) (fun K hK => ?_)
    ·skip
     refine goes_ Try.func37 (by kernel_rfl) rfl #[] (by rfl) rfl rfl (by (try simp only [List.map_toArray, List.map_cons, List.map_nil]); first | done | rfl | (simp only [List.length_drop, List.length_take]; rfl)) ?_
     with_reducible refine (perm_one.calls  t189 t190 _ A3.out).mono ?_
     rintro e w14 ⟨rfl, hb⟩
     refine ⟨_, rfl, ?_⟩
     have n0_ := Aside0.mk (blk_below (g := gb185) (o := .cells #[.int .i64 a0_0, .int .i64 a0_1] 23 (0, 0)) (by (with_reducible repeat (first | apply blk_drewN | apply blk_drew | apply blk_alloc)); exact BK185.out) hb)
     have n1_ := Aside0.mk (blk_below (g := gb186) (o := .cells #[.int .i64 a1_0, .int .i64 a1_1] 23 (0, 0)) (by (with_reducible repeat (first | apply blk_drewN | apply blk_drew | apply blk_alloc)); exact BK186.out) hb)
     have n2_ := Aside0.mk (blk_below (g := gb187) (o := .cells #[.int .i64 0, .int .i64 0] 23 (0, 0)) (by (with_reducible repeat (first | apply blk_drewN | apply blk_drew | apply blk_alloc)); exact BK187.out) hb)
     have n3_ := Aside0.mk (blk_below (g := gb188) (o := .cells #[.int .i64 0, .int .i64 0] 23 (0, 0)) (by (with_reducible repeat (first | apply blk_drewN | apply blk_drew | apply blk_alloc)); exact BK188.out) hb)
     have n4_ := Aside0.mk (below_step (by repeat (first | (with_reducible first | exact HB.out | apply below_alloc | apply pw_below_drewN | apply below_drew1 | refine below_set ?_ GE185.out | refine below_set ?_ GE186.out | refine below_set ?_ GE187.out | refine below_set ?_ GE188.out) | exact HB.out)) hb)
     clear BK185
     clear BK186
     clear BK187
     clear BK188
     clear HB
     have BK185 := n0_
     have BK186 := n1_
     have BK187 := n2_
     have BK188 := n3_
     have HB := n4_
     clear n0_ n1_ n2_ n3_ n4_
     (try clear hb)
     (try clear hb2)
     (try clear hk)
     (try clear hi)
     refine hK.out _ _ ⟨(blk_cell BK186.out 0).trans rfl, (blk_cell BK186.out 1).trans rfl⟩ (fun hHeld => ?_)
     clear hK K
     refine norm_ (a' := ?_) ?_ ?_
     rotate_left
     ·show Act.put _ (some 12) _ = _
      simp only [Act.put, List.setIfInBounds_toArray, List.set_cons_zero, List.set_cons_succ, i64_w, i32_w]
      rfl
     refine two_ (i := 2) (j := 6) (Ni := some 14) (Nj := some 7) #[true, true, true, false, false, false, false, false, false] #[true, true, false, false, false, false, true, false, false] rfl rfl rfl rfl (two_of HT_.out (by kernel_rfl)) (by decide) (by decide) (fun K hK => ?_) (fun K hK => ?_)
     ·skip
      refine goes_ Try.func18 (by kernel_rfl) rfl #[.agg #[.int .i64 t189, .int .i64 t190], .agg #[.int .i64 a1_0, .int .i64 a1_1]] (by rfl) rfl rfl (by (try simp only [List.map_toArray, List.map_cons, List.map_nil]); first | done | rfl | (simp only [List.length_drop, List.length_take]; rfl)) ?_
      with_reducible refine (rat_Sub.calls k t189 t190 a1_0 a1_1 t191 t192 t193 _ A4.out).mono ?_
      rintro e w15 ⟨rfl, hb⟩
      refine ⟨_, rfl, ?_⟩
      have n0_ := Aside0.mk (blk_below (g := gb185) (o := .cells #[.int .i64 a0_0, .int .i64 a0_1] 23 (0, 0)) (by (with_reducible repeat (first | apply blk_drewN | apply blk_drew | apply blk_alloc)); exact BK185.out) hb)
      have n1_ := Aside0.mk (blk_below (g := gb186) (o := .cells #[.int .i64 a1_0, .int .i64 a1_1] 23 (0, 0)) (by (with_reducible repeat (first | apply blk_drewN | apply blk_drew | apply blk_alloc)); exact BK186.out) hb)
      have n2_ := Aside0.mk (blk_below (g := gb187) (o := .cells #[.int .i64 0, .int .i64 0] 23 (0, 0)) (by (with_reducible repeat (first | apply blk_drewN | apply blk_drew | apply blk_alloc)); exact BK187.out) hb)
      have n3_ := Aside0.mk (blk_below (g := gb188) (o := .cells #[.int .i64 0, .int .i64 0] 23 (0, 0)) (by (with_reducible repeat (first | apply blk_drewN | apply blk_drew | apply blk_alloc)); exact BK188.out) hb)
      have n4_ := Aside0.mk (below_step (by repeat (first | (with_reducible first | exact HB.out | apply below_alloc | apply pw_below_drewN | apply below_drew1 | refine below_set ?_ GE185.out | refine below_set ?_ GE186.out | refine below_set ?_ GE187.out | refine below_set ?_ GE188.out) | exact HB.out)) hb)
      clear BK185
      clear BK186
      clear BK187
      clear BK188
      clear HB
      have BK185 := n0_
      have BK186 := n1_
      have BK187 := n2_
      have BK188 := n3_
      have HB := n4_
      clear n0_ n1_ n2_ n3_ n4_
      (try clear hb)
      (try clear hb2)
      (try clear hk)
      (try clear hi)
      refine hK.out _ _ ⟨(blk_cell BK186.out 0).trans rfl, (blk_cell BK186.out 1).trans rfl⟩ (fun hHeld => ?_)
      clear hK K
      refine norm_ (a' := ?_) ?_ ?_
      rotate_left
      ·show Act.put _ (some 14) _ = _
       simp only [Act.put, List.setIfInBounds_toArray, List.set_cons_zero, List.set_cons_succ, i64_w, i32_w]
       rfl
      refine pure_ (i := 3) (N := some 11) (v := ?_) (a' := ?_) #[true, true, true, true, false, false, false, false, false] rfl rfl (any_of HT_.out (by kernel_rfl)) (fun _ _ _ h => h) (Or.inl ⟨by rfl, ?_⟩) ?_ ?_
      rotate_left
      ·intro w'
       go_simp
       with_reducible rfl
      rotate_left
      ·simp only [Act.put, List.setIfInBounds_toArray, List.set_cons_zero, List.set_cons_succ, i64_w, i32_w]
       rfl
      refine pure_ (i := 4) (N := some 15) (v := ?_) (a' := ?_) #[true, true, true, true, true, false, false, false, false] rfl rfl (any_of HT_.out (by kernel_rfl)) (fun _ _ _ h => h) (Or.inl ⟨by rfl, ?_⟩) ?_ ?_
      rotate_left
      ·intro w'
       go_simp
       with_reducible rfl
      rotate_left
      ·simp only [Act.put, List.setIfInBounds_toArray, List.set_cons_zero, List.set_cons_succ, i64_w, i32_w]
       rfl
      refine pure_ (i := 5) (N := some 16) (v := ?_) (a' := ?_) #[true, true, true, true, true, true, false, false, false] rfl rfl (any_of HT_.out (by kernel_rfl)) (fun _ _ _ h => h) (Or.inl ⟨by rfl, ?_⟩) ?_ ?_
      rotate_left
      ·intro w'
       go_simp
       with_reducible rfl
      rotate_left
      ·simp only [Act.put, List.setIfInBounds_toArray, List.set_cons_zero, List.set_cons_succ, i64_w, i32_w]
       rfl
      refine one_ (i := 6) (N := some 7) #[true, true, true, true, true, true, true, false, false] rfl rfl (one_of HT_.out (by kernel_rfl)) (by decide) (fun K hK => ?_)
      refine box_step ?hg (N := 7) ?hd (cs := #[.int .i64 0, .int .i64 0]) (t := 23) ?hr ?_; (case hd => rfl); (case hg => rfl); (case hr => first | (go_simp; done) | (go_simp; rfl))
      intro gb194 hg w16 hbox hb
      have n0_ := Aside0.mk (blk_below (g := gb185) (o := .cells #[.int .i64 a0_0, .int .i64 a0_1] 23 (0, 0)) (by (with_reducible repeat (first | apply blk_drewN | apply blk_drew | apply blk_alloc)); exact BK185.out) hb)
      have n1_ := Aside0.mk (blk_below (g := gb186) (o := .cells #[.int .i64 a1_0, .int .i64 a1_1] 23 (0, 0)) (by (with_reducible repeat (first | apply blk_drewN | apply blk_drew | apply blk_alloc)); exact BK186.out) hb)
      have n2_ := Aside0.mk (blk_below (g := gb187) (o := .cells #[.int .i64 0, .int .i64 0] 23 (0, 0)) (by (with_reducible repeat (first | apply blk_drewN | apply blk_drew | apply blk_alloc)); exact BK187.out) hb)
      have n3_ := Aside0.mk (blk_below (g := gb188) (o := .cells #[.int .i64 0, .int .i64 0] 23 (0, 0)) (by (with_reducible repeat (first | apply blk_drewN | apply blk_drew | apply blk_alloc)); exact BK188.out) hb)
      have n4_ := Aside0.mk (below_step (by repeat (first | (with_reducible first | exact HB.out | apply below_alloc | apply pw_below_drewN | apply below_drew1 | refine below_set ?_ GE185.out | refine below_set ?_ GE186.out | refine below_set ?_ GE187.out | refine below_set ?_ GE188.out) | exact HB.out)) hb)
      have n5_ := Aside0.mk (hbox)
      have n6_ := Aside0.mk ((by rw [hg]; exact (below_size (by repeat (first | (with_reducible first | exact HB.out | apply below_alloc | apply pw_below_drewN | apply below_drew1 | refine below_set ?_ GE185.out | refine below_set ?_ GE186.out | refine below_set ?_ GE187.out | refine below_set ?_ GE188.out) | exact HB.out))) : w.heap.size ≤ gb194))
      have n7_ := Aside0.mk ((by rw [hg]; exact (below_size (by repeat (first | (with_reducible first | exact HB.out | apply below_alloc | apply pw_below_drewN | apply below_drew1 | refine below_set ?_ GE185.out | refine below_set ?_ GE186.out | refine below_set ?_ GE187.out | refine below_set ?_ GE188.out) | exact HB.out))) : w.heap.size ≤ gb194))
      have n8_ := Aside0.mk ((by rw [hg]; exact Nat.ne_of_lt (blk_lt (g := gb185) (o := .cells #[.int .i64 a0_0, .int .i64 a0_1] 23 (0, 0)) (by (with_reducible repeat (first | apply blk_drewN | apply blk_drew | apply blk_alloc)); exact BK185.out)) : gb185 ≠ gb194))
      have n9_ := Aside0.mk ((by rw [hg]; exact Nat.ne_of_gt (blk_lt (g := gb185) (o := .cells #[.int .i64 a0_0, .int .i64 a0_1] 23 (0, 0)) (by (with_reducible repeat (first | apply blk_drewN | apply blk_drew | apply blk_alloc)); exact BK185.out)) : gb194 ≠ gb185))
      have n10_ := Aside0.mk ((by rw [hg]; exact Nat.ne_of_lt (blk_lt (g := gb186) (o := .cells #[.int .i64 a1_0, .int .i64 a1_1] 23 (0, 0)) (by (with_reducible repeat (first | apply blk_drewN | apply blk_drew | apply blk_alloc)); exact BK186.out)) : gb186 ≠ gb194))
      have n11_ := Aside0.mk ((by rw [hg]; exact Nat.ne_of_gt (blk_lt (g := gb186) (o := .cells #[.int .i64 a1_0, .int .i64 a1_1] 23 (0, 0)) (by (with_reducible repeat (first | apply blk_drewN | apply blk_drew | apply blk_alloc)); exact BK186.out)) : gb194 ≠ gb186))
      have n12_ := Aside0.mk ((by rw [hg]; exact Nat.ne_of_lt (blk_lt (g := gb187) (o := .cells #[.int .i64 0, .int .i64 0] 23 (0, 0)) (by (with_reducible repeat (first | apply blk_drewN | apply blk_drew | apply blk_alloc)); exact BK187.out)) : gb187 ≠ gb194))
      have n13_ := Aside0.mk ((by rw [hg]; exact Nat.ne_of_gt (blk_lt (g := gb187) (o := .cells #[.int .i64 0, .int .i64 0] 23 (0, 0)) (by (with_reducible repeat (first | apply blk_drewN | apply blk_drew | apply blk_alloc)); exact BK187.out)) : gb194 ≠ gb187))
      have n14_ := Aside0.mk ((by rw [hg]; exact Nat.ne_of_lt (blk_lt (g := gb188) (o := .cells #[.int .i64 0, .int .i64 0] 23 (0, 0)) (by (with_reducible repeat (first | apply blk_drewN | apply blk_drew | apply blk_alloc)); exact BK188.out)) : gb188 ≠ gb194))
      have n15_ := Aside0.mk ((by rw [hg]; exact Nat.ne_of_gt (blk_lt (g := gb188) (o := .cells #[.int .i64 0, .int .i64 0] 23 (0, 0)) (by (with_reducible repeat (first | apply blk_drewN | apply blk_drew | apply blk_alloc)); exact BK188.out)) : gb194 ≠ gb188))
      clear BK185
      clear BK186
      clear BK187
      clear BK188
      clear HB
      have BK185 := n0_
      have BK186 := n1_
      have BK187 := n2_
      have BK188 := n3_
      have HB := n4_
      have BK194 := n5_
      have GW194 := n6_
      have GE194 := n7_
      have NB185_194 := n8_
      have NB194_185 := n9_
      have NB186_194 := n10_
      have NB194_186 := n11_
      have NB187_194 := n12_
      have NB194_187 := n13_
      have NB188_194 := n14_
      have NB194_188 := n15_
      clear n0_ n1_ n2_ n3_ n4_ n5_ n6_ n7_ n8_ n9_ n10_ n11_ n12_ n13_ n14_ n15_
      clear hb hbox hg
      refine hK.out _ _ ⟨(blk_cell BK186.out 0).trans rfl, (blk_cell BK186.out 1).trans rfl⟩ (fun hHeld => ?_)
      clear hK K
      refine norm_ (a' := ?_) ?_ ?_
      rotate_left
      ·show Act.put _ (some 7) _ = _
       simp only [Act.put, List.setIfInBounds_toArray, List.set_cons_zero, List.set_cons_succ, i64_w, i32_w]
       rfl
      exact norm_ (by simp only [putAll, Act.put, List.setIfInBounds_toArray, List.set_cons_zero, List.set_cons_succ]) (hCont (gb194) _ ⟨hHeld, (by (with_reducible repeat (first | apply blk_drewN | apply blk_drew | apply blk_alloc)); exact BK185.out), (by (with_reducible repeat (first | apply blk_drewN | apply blk_drew | apply blk_alloc)); exact BK186.out), (by (with_reducible repeat (first | apply blk_drewN | apply blk_drew | apply blk_alloc)); exact BK187.out), (by (with_reducible repeat (first | apply blk_drewN | apply blk_drew | apply blk_alloc)); exact BK188.out), (by (with_reducible repeat (first | apply blk_drewN | apply blk_drew | apply blk_alloc)); exact BK194.out), GW194.out, GE194.out, NB185_194.out, NB194_185.out, NB186_194.out, NB194_186.out, NB187_194.out, NB194_187.out, NB188_194.out, NB194_188.out, (by repeat (first | (with_reducible first | exact HB.out | apply below_alloc | apply pw_below_drewN | apply below_drew1 | refine below_set ?_ GE185.out | refine below_set ?_ GE186.out | refine below_set ?_ GE187.out | refine below_set ?_ GE188.out | refine below_set ?_ GE194.out) | exact HB.out))⟩)
     ·skip
      refine box_step ?hg (N := 7) ?hd (cs := #[.int .i64 0, .int .i64 0]) (t := 23) ?hr ?_; (case hd => rfl); (case hg => rfl); (case hr => first | (go_simp; done) | (go_simp; rfl))
      intro gb194 hg w15 hbox hb
      have n0_ := Aside0.mk (blk_below (g := gb185) (o := .cells #[.int .i64 a0_0, .int .i64 a0_1] 23 (0, 0)) (by (with_reducible repeat (first | apply blk_drewN | apply blk_drew | apply blk_alloc)); exact BK185.out) hb)
      have n1_ := Aside0.mk (blk_below (g := gb186) (o := .cells #[.int .i64 a1_0, .int .i64 a1_1] 23 (0, 0)) (by (with_reducible repeat (first | apply blk_drewN | apply blk_drew | apply blk_alloc)); exact BK186.out) hb)
      have n2_ := Aside0.mk (blk_below (g := gb187) (o := .cells #[.int .i64 0, .int .i64 0] 23 (0, 0)) (by (with_reducible repeat (first | apply blk_drewN | apply blk_drew | apply blk_alloc)); exact BK187.out) hb)
      have n3_ := Aside0.mk (blk_below (g := gb188) (o := .cells #[.int .i64 0, .int .i64 0] 23 (0, 0)) (by (with_reducible repeat (first | apply blk_drewN | apply blk_drew | apply blk_alloc)); exact BK188.out) hb)
      have n4_ := Aside0.mk (below_step (by repeat (first | (with_reducible first | exact HB.out | apply below_alloc | apply pw_below_drewN | apply below_drew1 | refine below_set ?_ GE185.out | refine below_set ?_ GE186.out | refine below_set ?_ GE187.out | refine below_set ?_ GE188.out) | exact HB.out)) hb)
      have n5_ := Aside0.mk (hbox)
      have n6_ := Aside0.mk ((by rw [hg]; exact (below_size (by repeat (first | (with_reducible first | exact HB.out | apply below_alloc | apply pw_below_drewN | apply below_drew1 | refine below_set ?_ GE185.out | refine below_set ?_ GE186.out | refine below_set ?_ GE187.out | refine below_set ?_ GE188.out) | exact HB.out))) : w.heap.size ≤ gb194))
      have n7_ := Aside0.mk ((by rw [hg]; exact (below_size (by repeat (first | (with_reducible first | exact HB.out | apply below_alloc | apply pw_below_drewN | apply below_drew1 | refine below_set ?_ GE185.out | refine below_set ?_ GE186.out | refine below_set ?_ GE187.out | refine below_set ?_ GE188.out) | exact HB.out))) : w.heap.size ≤ gb194))
      have n8_ := Aside0.mk ((by rw [hg]; exact Nat.ne_of_lt (blk_lt (g := gb185) (o := .cells #[.int .i64 a0_0, .int .i64 a0_1] 23 (0, 0)) (by (with_reducible repeat (first | apply blk_drewN | apply blk_drew | apply blk_alloc)); exact BK185.out)) : gb185 ≠ gb194))
      have n9_ := Aside0.mk ((by rw [hg]; exact Nat.ne_of_gt (blk_lt (g := gb185) (o := .cells #[.int .i64 a0_0, .int .i64 a0_1] 23 (0, 0)) (by (with_reducible repeat (first | apply blk_drewN | apply blk_drew | apply blk_alloc)); exact BK185.out)) : gb194 ≠ gb185))
      have n10_ := Aside0.mk ((by rw [hg]; exact Nat.ne_of_lt (blk_lt (g := gb186) (o := .cells #[.int .i64 a1_0, .int .i64 a1_1] 23 (0, 0)) (by (with_reducible repeat (first | apply blk_drewN | apply blk_drew | apply blk_alloc)); exact BK186.out)) : gb186 ≠ gb194))
      have n11_ := Aside0.mk ((by rw [hg]; exact Nat.ne_of_gt (blk_lt (g := gb186) (o := .cells #[.int .i64 a1_0, .int .i64 a1_1] 23 (0, 0)) (by (with_reducible repeat (first | apply blk_drewN | apply blk_drew | apply blk_alloc)); exact BK186.out)) : gb194 ≠ gb186))
      have n12_ := Aside0.mk ((by rw [hg]; exact Nat.ne_of_lt (blk_lt (g := gb187) (o := .cells #[.int .i64 0, .int .i64 0] 23 (0, 0)) (by (with_reducible repeat (first | apply blk_drewN | apply blk_drew | apply blk_alloc)); exact BK187.out)) : gb187 ≠ gb194))
      have n13_ := Aside0.mk ((by rw [hg]; exact Nat.ne_of_gt (blk_lt (g := gb187) (o := .cells #[.int .i64 0, .int .i64 0] 23 (0, 0)) (by (with_reducible repeat (first | apply blk_drewN | apply blk_drew | apply blk_alloc)); exact BK187.out)) : gb194 ≠ gb187))
      have n14_ := Aside0.mk ((by rw [hg]; exact Nat.ne_of_lt (blk_lt (g := gb188) (o := .cells #[.int .i64 0, .int .i64 0] 23 (0, 0)) (by (with_reducible repeat (first | apply blk_drewN | apply blk_drew | apply blk_alloc)); exact BK188.out)) : gb188 ≠ gb194))
      have n15_ := Aside0.mk ((by rw [hg]; exact Nat.ne_of_gt (blk_lt (g := gb188) (o := .cells #[.int .i64 0, .int .i64 0] 23 (0, 0)) (by (with_reducible repeat (first | apply blk_drewN | apply blk_drew | apply blk_alloc)); exact BK188.out)) : gb194 ≠ gb188))
      clear BK185
      clear BK186
      clear BK187
      clear BK188
      clear HB
      have BK185 := n0_
      have BK186 := n1_
      have BK187 := n2_
      have BK188 := n3_
      have HB := n4_
      have BK194 := n5_
      have GW194 := n6_
      have GE194 := n7_
      have NB185_194 := n8_
      have NB194_185 := n9_
      have NB186_194 := n10_
      have NB194_186 := n11_
      have NB187_194 := n12_
      have NB194_187 := n13_
      have NB188_194 := n14_
      have NB194_188 := n15_
      clear n0_ n1_ n2_ n3_ n4_ n5_ n6_ n7_ n8_ n9_ n10_ n11_ n12_ n13_ n14_ n15_
      clear hb hbox hg
      refine hK.out _ _ ⟨(blk_cell BK186.out 0).trans rfl, (blk_cell BK186.out 1).trans rfl⟩ (fun hHeld => ?_)
      clear hK K
      refine norm_ (a' := ?_) ?_ ?_
      rotate_left
      ·show Act.put _ (some 7) _ = _
       simp only [Act.put, List.setIfInBounds_toArray, List.set_cons_zero, List.set_cons_succ, i64_w, i32_w]
       rfl
      refine one_ (i := 2) (N := some 14) #[true, true, true, false, false, false, true, false, false] rfl rfl (one_of HT_.out (by kernel_rfl)) (by decide) (fun K hK => ?_)
      refine goes_ Try.func18 (by kernel_rfl) rfl #[.agg #[.int .i64 t189, .int .i64 t190], .agg #[.int .i64 a1_0, .int .i64 a1_1]] (by rfl) rfl rfl (by (try simp only [List.map_toArray, List.map_cons, List.map_nil]); first | done | rfl | (simp only [List.length_drop, List.length_take]; rfl)) ?_
      with_reducible refine (rat_Sub.calls k t189 t190 a1_0 a1_1 t191 t192 t193 _ A4.out).mono ?_
      rintro e w16 ⟨rfl, hb⟩
      refine ⟨_, rfl, ?_⟩
      have n0_ := Aside0.mk (blk_below (g := gb185) (o := .cells #[.int .i64 a0_0, .int .i64 a0_1] 23 (0, 0)) (by (with_reducible repeat (first | apply blk_drewN | apply blk_drew | apply blk_alloc)); exact BK185.out) hb)
      have n1_ := Aside0.mk (blk_below (g := gb186) (o := .cells #[.int .i64 a1_0, .int .i64 a1_1] 23 (0, 0)) (by (with_reducible repeat (first | apply blk_drewN | apply blk_drew | apply blk_alloc)); exact BK186.out) hb)
      have n2_ := Aside0.mk (blk_below (g := gb187) (o := .cells #[.int .i64 0, .int .i64 0] 23 (0, 0)) (by (with_reducible repeat (first | apply blk_drewN | apply blk_drew | apply blk_alloc)); exact BK187.out) hb)
      have n3_ := Aside0.mk (blk_below (g := gb188) (o := .cells #[.int .i64 0, .int .i64 0] 23 (0, 0)) (by (with_reducible repeat (first | apply blk_drewN | apply blk_drew | apply blk_alloc)); exact BK188.out) hb)
      have n4_ := Aside0.mk (blk_below (g := gb194) (o := .cells #[.int .i64 0, .int .i64 0] 23 (0, 0)) (by (with_reducible repeat (first | apply blk_drewN | apply blk_drew | apply blk_alloc)); exact BK194.out) hb)
      have n5_ := Aside0.mk (below_step (by repeat (first | (with_reducible first | exact HB.out | apply below_alloc | apply pw_below_drewN | apply below_drew1 | refine below_set ?_ GE185.out | refine below_set ?_ GE186.out | refine below_set ?_ GE187.out | refine below_set ?_ GE188.out | refine below_set ?_ GE194.out) | exact HB.out)) hb)
      clear BK185
      clear BK186
      clear BK187
      clear BK188
      clear BK194
      clear HB
      have BK185 := n0_
      have BK186 := n1_
      have BK187 := n2_
      have BK188 := n3_
      have BK194 := n4_
      have HB := n5_
      clear n0_ n1_ n2_ n3_ n4_ n5_
      (try clear hb)
      (try clear hb2)
      (try clear hk)
      (try clear hi)
      refine hK.out _ _ ⟨(blk_cell BK186.out 0).trans rfl, (blk_cell BK186.out 1).trans rfl⟩ (fun hHeld => ?_)
      clear hK K
      refine norm_ (a' := ?_) ?_ ?_
      rotate_left
      ·show Act.put _ (some 14) _ = _
       simp only [Act.put, List.setIfInBounds_toArray, List.set_cons_zero, List.set_cons_succ, i64_w, i32_w]
       rfl
      refine pure_ (i := 3) (N := some 11) (v := ?_) (a' := ?_) #[true, true, true, true, false, false, true, false, false] rfl rfl (any_of HT_.out (by kernel_rfl)) (fun _ _ _ h => h) (Or.inl ⟨by rfl, ?_⟩) ?_ ?_
      rotate_left
      ·intro w'
       go_simp
       with_reducible rfl
      rotate_left
      ·simp only [Act.put, List.setIfInBounds_toArray, List.set_cons_zero, List.set_cons_succ, i64_w, i32_w]
       rfl
      refine pure_ (i := 4) (N := some 15) (v := ?_) (a' := ?_) #[true, true, true, true, true, false, true, false, false] rfl rfl (any_of HT_.out (by kernel_rfl)) (fun _ _ _ h => h) (Or.inl ⟨by rfl, ?_⟩) ?_ ?_
      rotate_left
      ·intro w'
       go_simp
       with_reducible rfl
      rotate_left
      ·simp only [Act.put, List.setIfInBounds_toArray, List.set_cons_zero, List.set_cons_succ, i64_w, i32_w]
       rfl
      refine pure_ (i := 5) (N := some 16) (v := ?_) (a' := ?_) #[true, true, true, true, true, true, true, false, false] rfl rfl (any_of HT_.out (by kernel_rfl)) (fun _ _ _ h => h) (Or.inl ⟨by rfl, ?_⟩) ?_ ?_
      rotate_left
      ·intro w'
       go_simp
       with_reducible rfl
      rotate_left
      ·simp only [Act.put, List.setIfInBounds_toArray, List.set_cons_zero, List.set_cons_succ, i64_w, i32_w]
       rfl
      exact norm_ (by simp only [putAll, Act.put, List.setIfInBounds_toArray, List.set_cons_zero, List.set_cons_succ]) (hCont (gb194) _ ⟨hHeld, (by (with_reducible repeat (first | apply blk_drewN | apply blk_drew | apply blk_alloc)); exact BK185.out), (by (with_reducible repeat (first | apply blk_drewN | apply blk_drew | apply blk_alloc)); exact BK186.out), (by (with_reducible repeat (first | apply blk_drewN | apply blk_drew | apply blk_alloc)); exact BK187.out), (by (with_reducible repeat (first | apply blk_drewN | apply blk_drew | apply blk_alloc)); exact BK188.out), (by (with_reducible repeat (first | apply blk_drewN | apply blk_drew | apply blk_alloc)); exact BK194.out), GW194.out, GE194.out, NB185_194.out, NB194_185.out, NB186_194.out, NB194_186.out, NB187_194.out, NB194_187.out, NB188_194.out, NB194_188.out, (by repeat (first | (with_reducible first | exact HB.out | apply below_alloc | apply pw_below_drewN | apply below_drew1 | refine below_set ?_ GE185.out | refine below_set ?_ GE186.out | refine below_set ?_ GE187.out | refine below_set ?_ GE188.out | refine below_set ?_ GE194.out) | exact HB.out))⟩)
    ·skip
     refine box_step ?hg (N := 7) ?hd (cs := #[.int .i64 0, .int .i64 0]) (t := 23) ?hr ?_; (case hd => rfl); (case hg => rfl); (case hr => first | (go_simp; done) | (go_simp; rfl))
     intro gb194 hg w14 hbox hb
     have n0_ := Aside0.mk (blk_below (g := gb185) (o := .cells #[.int .i64 a0_0, .int .i64 a0_1] 23 (0, 0)) (by (with_reducible repeat (first | apply blk_drewN | apply blk_drew | apply blk_alloc)); exact BK185.out) hb)
     have n1_ := Aside0.mk (blk_below (g := gb186) (o := .cells #[.int .i64 a1_0, .int .i64 a1_1] 23 (0, 0)) (by (with_reducible repeat (first | apply blk_drewN | apply blk_drew | apply blk_alloc)); exact BK186.out) hb)
     have n2_ := Aside0.mk (blk_below (g := gb187) (o := .cells #[.int .i64 0, .int .i64 0] 23 (0, 0)) (by (with_reducible repeat (first | apply blk_drewN | apply blk_drew | apply blk_alloc)); exact BK187.out) hb)
     have n3_ := Aside0.mk (blk_below (g := gb188) (o := .cells #[.int .i64 0, .int .i64 0] 23 (0, 0)) (by (with_reducible repeat (first | apply blk_drewN | apply blk_drew | apply blk_alloc)); exact BK188.out) hb)
     have n4_ := Aside0.mk (below_step (by repeat (first | (with_reducible first | exact HB.out | apply below_alloc | apply pw_below_drewN | apply below_drew1 | refine below_set ?_ GE185.out | refine below_set ?_ GE186.out | refine below_set ?_ GE187.out | refine below_set ?_ GE188.out) | exact HB.out)) hb)
     have n5_ := Aside0.mk (hbox)
     have n6_ := Aside0.mk ((by rw [hg]; exact (below_size (by repeat (first | (with_reducible first | exact HB.out | apply below_alloc | apply pw_below_drewN | apply below_drew1 | refine below_set ?_ GE185.out | refine below_set ?_ GE186.out | refine below_set ?_ GE187.out | refine below_set ?_ GE188.out) | exact HB.out))) : w.heap.size ≤ gb194))
     have n7_ := Aside0.mk ((by rw [hg]; exact (below_size (by repeat (first | (with_reducible first | exact HB.out | apply below_alloc | apply pw_below_drewN | apply below_drew1 | refine below_set ?_ GE185.out | refine below_set ?_ GE186.out | refine below_set ?_ GE187.out | refine below_set ?_ GE188.out) | exact HB.out))) : w.heap.size ≤ gb194))
     have n8_ := Aside0.mk ((by rw [hg]; exact Nat.ne_of_lt (blk_lt (g := gb185) (o := .cells #[.int .i64 a0_0, .int .i64 a0_1] 23 (0, 0)) (by (with_reducible repeat (first | apply blk_drewN | apply blk_drew | apply blk_alloc)); exact BK185.out)) : gb185 ≠ gb194))
     have n9_ := Aside0.mk ((by rw [hg]; exact Nat.ne_of_gt (blk_lt (g := gb185) (o := .cells #[.int .i64 a0_0, .int .i64 a0_1] 23 (0, 0)) (by (with_reducible repeat (first | apply blk_drewN | apply blk_drew | apply blk_alloc)); exact BK185.out)) : gb194 ≠ gb185))
     have n10_ := Aside0.mk ((by rw [hg]; exact Nat.ne_of_lt (blk_lt (g := gb186) (o := .cells #[.int .i64 a1_0, .int .i64 a1_1] 23 (0, 0)) (by (with_reducible repeat (first | apply blk_drewN | apply blk_drew | apply blk_alloc)); exact BK186.out)) : gb186 ≠ gb194))
     have n11_ := Aside0.mk ((by rw [hg]; exact Nat.ne_of_gt (blk_lt (g := gb186) (o := .cells #[.int .i64 a1_0, .int .i64 a1_1] 23 (0, 0)) (by (with_reducible repeat (first | apply blk_drewN | apply blk_drew | apply blk_alloc)); exact BK186.out)) : gb194 ≠ gb186))
     have n12_ := Aside0.mk ((by rw [hg]; exact Nat.ne_of_lt (blk_lt (g := gb187) (o := .cells #[.int .i64 0, .int .i64 0] 23 (0, 0)) (by (with_reducible repeat (first | apply blk_drewN | apply blk_drew | apply blk_alloc)); exact BK187.out)) : gb187 ≠ gb194))
     have n13_ := Aside0.mk ((by rw [hg]; exact Nat.ne_of_gt (blk_lt (g := gb187) (o := .cells #[.int .i64 0, .int .i64 0] 23 (0, 0)) (by (with_reducible repeat (first | apply blk_drewN | apply blk_drew | apply blk_alloc)); exact BK187.out)) : gb194 ≠ gb187))
     have n14_ := Aside0.mk ((by rw [hg]; exact Nat.ne_of_lt (blk_lt (g := gb188) (o := .cells #[.int .i64 0, .int .i64 0] 23 (0, 0)) (by (with_reducible repeat (first | apply blk_drewN | apply blk_drew | apply blk_alloc)); exact BK188.out)) : gb188 ≠ gb194))
     have n15_ := Aside0.mk ((by rw [hg]; exact Nat.ne_of_gt (blk_lt (g := gb188) (o := .cells #[.int .i64 0, .int .i64 0] 23 (0, 0)) (by (with_reducible repeat (first | apply blk_drewN | apply blk_drew | apply blk_alloc)); exact BK188.out)) : gb194 ≠ gb188))
     clear BK185
     clear BK186
     clear BK187
     clear BK188
     clear HB
     have BK185 := n0_
     have BK186 := n1_
     have BK187 := n2_
     have BK188 := n3_
     have HB := n4_
     have BK194 := n5_
     have GW194 := n6_
     have GE194 := n7_
     have NB185_194 := n8_
     have NB194_185 := n9_
     have NB186_194 := n10_
     have NB194_186 := n11_
     have NB187_194 := n12_
     have NB194_187 := n13_
     have NB188_194 := n14_
     have NB194_188 := n15_
     clear n0_ n1_ n2_ n3_ n4_ n5_ n6_ n7_ n8_ n9_ n10_ n11_ n12_ n13_ n14_ n15_
     clear hb hbox hg
     refine hK.out _ _ ⟨(blk_cell BK186.out 0).trans rfl, (blk_cell BK186.out 1).trans rfl⟩ (fun hHeld => ?_)
     clear hK K
     refine norm_ (a' := ?_) ?_ ?_
     rotate_left
     ·show Act.put _ (some 7) _ = _
      simp only [Act.put, List.setIfInBounds_toArray, List.set_cons_zero, List.set_cons_succ, i64_w, i32_w]
      rfl
     refine one_ (i := 0) (N := some 12) #[true, true, false, false, false, false, true, false, false] rfl rfl (one_of HT_.out (by kernel_rfl)) (by decide) (fun K hK => ?_)
     refine goes_ Try.func37 (by kernel_rfl) rfl #[] (by rfl) rfl rfl (by (try simp only [List.map_toArray, List.map_cons, List.map_nil]); first | done | rfl | (simp only [List.length_drop, List.length_take]; rfl)) ?_
     with_reducible refine (perm_one.calls  t189 t190 _ A3.out).mono ?_
     rintro e w15 ⟨rfl, hb⟩
     refine ⟨_, rfl, ?_⟩
     have n0_ := Aside0.mk (blk_below (g := gb185) (o := .cells #[.int .i64 a0_0, .int .i64 a0_1] 23 (0, 0)) (by (with_reducible repeat (first | apply blk_drewN | apply blk_drew | apply blk_alloc)); exact BK185.out) hb)
     have n1_ := Aside0.mk (blk_below (g := gb186) (o := .cells #[.int .i64 a1_0, .int .i64 a1_1] 23 (0, 0)) (by (with_reducible repeat (first | apply blk_drewN | apply blk_drew | apply blk_alloc)); exact BK186.out) hb)
     have n2_ := Aside0.mk (blk_below (g := gb187) (o := .cells #[.int .i64 0, .int .i64 0] 23 (0, 0)) (by (with_reducible repeat (first | apply blk_drewN | apply blk_drew | apply blk_alloc)); exact BK187.out) hb)
     have n3_ := Aside0.mk (blk_below (g := gb188) (o := .cells #[.int .i64 0, .int .i64 0] 23 (0, 0)) (by (with_reducible repeat (first | apply blk_drewN | apply blk_drew | apply blk_alloc)); exact BK188.out) hb)
     have n4_ := Aside0.mk (blk_below (g := gb194) (o := .cells #[.int .i64 0, .int .i64 0] 23 (0, 0)) (by (with_reducible repeat (first | apply blk_drewN | apply blk_drew | apply blk_alloc)); exact BK194.out) hb)
     have n5_ := Aside0.mk (below_step (by repeat (first | (with_reducible first | exact HB.out | apply below_alloc | apply pw_below_drewN | apply below_drew1 | refine below_set ?_ GE185.out | refine below_set ?_ GE186.out | refine below_set ?_ GE187.out | refine below_set ?_ GE188.out | refine below_set ?_ GE194.out) | exact HB.out)) hb)
     clear BK185
     clear BK186
     clear BK187
     clear BK188
     clear BK194
     clear HB
     have BK185 := n0_
     have BK186 := n1_
     have BK187 := n2_
     have BK188 := n3_
     have BK194 := n4_
     have HB := n5_
     clear n0_ n1_ n2_ n3_ n4_ n5_
     (try clear hb)
     (try clear hb2)
     (try clear hk)
     (try clear hi)
     refine hK.out _ _ ⟨(blk_cell BK186.out 0).trans rfl, (blk_cell BK186.out 1).trans rfl⟩ (fun hHeld => ?_)
     clear hK K
     refine norm_ (a' := ?_) ?_ ?_
     rotate_left
     ·show Act.put _ (some 12) _ = _
      simp only [Act.put, List.setIfInBounds_toArray, List.set_cons_zero, List.set_cons_succ, i64_w, i32_w]
      rfl
     refine one_ (i := 2) (N := some 14) #[true, true, true, false, false, false, true, false, false] rfl rfl (one_of HT_.out (by kernel_rfl)) (by decide) (fun K hK => ?_)
     refine goes_ Try.func18 (by kernel_rfl) rfl #[.agg #[.int .i64 t189, .int .i64 t190], .agg #[.int .i64 a1_0, .int .i64 a1_1]] (by rfl) rfl rfl (by (try simp only [List.map_toArray, List.map_cons, List.map_nil]); first | done | rfl | (simp only [List.length_drop, List.length_take]; rfl)) ?_
     with_reducible refine (rat_Sub.calls k t189 t190 a1_0 a1_1 t191 t192 t193 _ A4.out).mono ?_
     rintro e w16 ⟨rfl, hb⟩
     refine ⟨_, rfl, ?_⟩
     have n0_ := Aside0.mk (blk_below (g := gb185) (o := .cells #[.int .i64 a0_0, .int .i64 a0_1] 23 (0, 0)) (by (with_reducible repeat (first | apply blk_drewN | apply blk_drew | apply blk_alloc)); exact BK185.out) hb)
     have n1_ := Aside0.mk (blk_below (g := gb186) (o := .cells #[.int .i64 a1_0, .int .i64 a1_1] 23 (0, 0)) (by (with_reducible repeat (first | apply blk_drewN | apply blk_drew | apply blk_alloc)); exact BK186.out) hb)
     have n2_ := Aside0.mk (blk_below (g := gb187) (o := .cells #[.int .i64 0, .int .i64 0] 23 (0, 0)) (by (with_reducible repeat (first | apply blk_drewN | apply blk_drew | apply blk_alloc)); exact BK187.out) hb)
     have n3_ := Aside0.mk (blk_below (g := gb188) (o := .cells #[.int .i64 0, .int .i64 0] 23 (0, 0)) (by (with_reducible repeat (first | apply blk_drewN | apply blk_drew | apply blk_alloc)); exact BK188.out) hb)
     have n4_ := Aside0.mk (blk_below (g := gb194) (o := .cells #[.int .i64 0, .int .i64 0] 23 (0, 0)) (by (with_reducible repeat (first | apply blk_drewN | apply blk_drew | apply blk_alloc)); exact BK194.out) hb)
     have n5_ := Aside0.mk (below_step (by repeat (first | (with_reducible first | exact HB.out | apply below_alloc | apply pw_below_drewN | apply below_drew1 | refine below_set ?_ GE185.out | refine below_set ?_ GE186.out | refine below_set ?_ GE187.out | refine below_set ?_ GE188.out | refine below_set ?_ GE194.out) | exact HB.out)) hb)
     clear BK185
     clear BK186
     clear BK187
     clear BK188
     clear BK194
     clear HB
     have BK185 := n0_
     have BK186 := n1_
     have BK187 := n2_
     have BK188 := n3_
     have BK194 := n4_
     have HB := n5_
     clear n0_ n1_ n2_ n3_ n4_ n5_
     (try clear hb)
     (try clear hb2)
     (try clear hk)
     (try clear hi)
     refine hK.out _ _ ⟨(blk_cell BK186.out 0).trans rfl, (blk_cell BK186.out 1).trans rfl⟩ (fun hHeld => ?_)
     clear hK K
     refine norm_ (a' := ?_) ?_ ?_
     rotate_left
     ·show Act.put _ (some 14) _ = _
      simp only [Act.put, List.setIfInBounds_toArray, List.set_cons_zero, List.set_cons_succ, i64_w, i32_w]
      rfl
     refine pure_ (i := 3) (N := some 11) (v := ?_) (a' := ?_) #[true, true, true, true, false, false, true, false, false] rfl rfl (any_of HT_.out (by kernel_rfl)) (fun _ _ _ h => h) (Or.inl ⟨by rfl, ?_⟩) ?_ ?_
     rotate_left
     ·intro w'
      go_simp
      with_reducible rfl
     rotate_left
     ·simp only [Act.put, List.setIfInBounds_toArray, List.set_cons_zero, List.set_cons_succ, i64_w, i32_w]
      rfl
     refine pure_ (i := 4) (N := some 15) (v := ?_) (a' := ?_) #[true, true, true, true, true, false, true, false, false] rfl rfl (any_of HT_.out (by kernel_rfl)) (fun _ _ _ h => h) (Or.inl ⟨by rfl, ?_⟩) ?_ ?_
     rotate_left
     ·intro w'
      go_simp
      with_reducible rfl
     rotate_left
     ·simp only [Act.put, List.setIfInBounds_toArray, List.set_cons_zero, List.set_cons_succ, i64_w, i32_w]
      rfl
     refine pure_ (i := 5) (N := some 16) (v := ?_) (a' := ?_) #[true, true, true, true, true, true, true, false, false] rfl rfl (any_of HT_.out (by kernel_rfl)) (fun _ _ _ h => h) (Or.inl ⟨by rfl, ?_⟩) ?_ ?_
     rotate_left
     ·intro w'
      go_simp
      with_reducible rfl
     rotate_left
     ·simp only [Act.put, List.setIfInBounds_toArray, List.set_cons_zero, List.set_cons_succ, i64_w, i32_w]
      rfl
     exact norm_ (by simp only [putAll, Act.put, List.setIfInBounds_toArray, List.set_cons_zero, List.set_cons_succ]) (hCont (gb194) _ ⟨hHeld, (by (with_reducible repeat (first | apply blk_drewN | apply blk_drew | apply blk_alloc)); exact BK185.out), (by (with_reducible repeat (first | apply blk_drewN | apply blk_drew | apply blk_alloc)); exact BK186.out), (by (with_reducible repeat (first | apply blk_drewN | apply blk_drew | apply blk_alloc)); exact BK187.out), (by (with_reducible repeat (first | apply blk_drewN | apply blk_drew | apply blk_alloc)); exact BK188.out), (by (with_reducible repeat (first | apply blk_drewN | apply blk_drew | apply blk_alloc)); exact BK194.out), GW194.out, GE194.out, NB185_194.out, NB194_185.out, NB186_194.out, NB194_186.out, NB187_194.out, NB194_187.out, NB188_194.out, NB194_188.out, (by repeat (first | (with_reducible first | exact HB.out | apply below_alloc | apply pw_below_drewN | apply below_drew1 | refine below_set ?_ GE185.out | refine below_set ?_ GE186.out | refine below_set ?_ GE187.out | refine below_set ?_ GE188.out | refine below_set ?_ GE194.out) | exact HB.out))⟩)
   rintro gb194 w17 ⟨hS_, h0_, h1_, h2_, h3_, h4_, h5_, h6_, h7_, h8_, h9_, h10_, h11_, h12_, h13_, h14_, h15_⟩
   have n0_ : Aside0 (w17.heap[gb185]? = some (.cells #[.int .i64 a0_0, .int .i64 a0_1] 23 (0, 0))) := ⟨h0_⟩
   have n1_ : Aside0 (w17.heap[gb186]? = some (.cells #[.int .i64 a1_0, .int .i64 a1_1] 23 (0, 0))) := ⟨h1_⟩
   have n2_ : Aside0 (w17.heap[gb187]? = some (.cells #[.int .i64 0, .int .i64 0] 23 (0, 0))) := ⟨h2_⟩
   have n3_ : Aside0 (w17.heap[gb188]? = some (.cells #[.int .i64 0, .int .i64 0] 23 (0, 0))) := ⟨h3_⟩
   have n4_ : Aside0 (w17.heap[gb194]? = some (.cells #[.int .i64 0, .int .i64 0] 23 (0, 0))) := ⟨h4_⟩
   have n5_ : Aside0 (w.heap.size ≤ gb194) := ⟨h5_⟩
   have n6_ : Aside0 (w.heap.size ≤ gb194) := ⟨h6_⟩
   have n7_ : Aside0 (gb185 ≠ gb194) := ⟨h7_⟩
   have n8_ : Aside0 (gb194 ≠ gb185) := ⟨h8_⟩
   have n9_ : Aside0 (gb186 ≠ gb194) := ⟨h9_⟩
   have n10_ : Aside0 (gb194 ≠ gb186) := ⟨h10_⟩
   have n11_ : Aside0 (gb187 ≠ gb194) := ⟨h11_⟩
   have n12_ : Aside0 (gb194 ≠ gb187) := ⟨h12_⟩
   have n13_ : Aside0 (gb188 ≠ gb194) := ⟨h13_⟩
   have n14_ : Aside0 (gb194 ≠ gb188) := ⟨h14_⟩
   have n15_ : Aside0 (Below w.heap.size w w17) := ⟨h15_⟩
   clear BK185
   clear BK186
   clear BK187
   clear BK188
   clear HB
   clear h0_ h1_ h2_ h3_ h4_ h5_ h6_ h7_ h8_ h9_ h10_ h11_ h12_ h13_ h14_ h15_
   have BK185 := n0_
   have BK186 := n1_
   have BK187 := n2_
   have BK188 := n3_
   have BK194 := n4_
   have GW194 := n5_
   have GE194 := n6_
   have NB185_194 := n7_
   have NB194_185 := n8_
   have NB186_194 := n9_
   have NB194_186 := n10_
   have NB187_194 := n11_
   have NB194_187 := n12_
   have NB188_194 := n13_
   have NB194_188 := n14_
   have HB := n15_
   clear n0_ n1_ n2_ n3_ n4_ n5_ n6_ n7_ n8_ n9_ n10_ n11_ n12_ n13_ n14_ n15_
   have hHeld : w17.cell? ⟨gb186, 0, none⟩ = some (.int .i64 a1_0) ∧ w17.cell? ⟨gb186, 1, none⟩ = some (.int .i64 a1_1) := hS_
   refine norm_ (a' := ?_) ?_ ?_
   rotate_left
   ·simp only [putAll, Act.put, List.setIfInBounds_toArray, List.set_cons_zero, List.set_cons_succ]
    rfl
   refine one_ (i := 7) (N := none) #[true, true, true, true, true, true, true, true, false] rfl rfl (one_of HT_.out (by kernel_rfl)) (by decide) (fun K hK => ?_)
   have hs18 : w17.cell? ⟨gb194, 0, none⟩ = some (.int .i64 0) := (blk_cell BK194.out 0).trans rfl
   have hfs18 := blk_frozen BK194.out 0
   have hns18_0 := NB185_194.out
   have hns18_1 := NB186_194.out
   have hns18_2 := NB187_194.out
   have hns18_3 := NB188_194.out
   have hms18_0 := NB194_185.out
   have hms18_1 := NB194_186.out
   have hms18_2 := NB194_187.out
   have hms18_3 := NB194_188.out
   have hs19 : w17.cell? ⟨gb194, 1, none⟩ = some (.int .i64 0) := (blk_cell BK194.out 1).trans rfl
   have hfs19 := blk_frozen BK194.out 1
   have hns19_0 := NB185_194.out
   have hns19_1 := NB186_194.out
   have hns19_2 := NB187_194.out
   have hns19_3 := NB188_194.out
   have hms19_0 := NB194_185.out
   have hms19_1 := NB194_186.out
   have hms19_2 := NB194_187.out
   have hms19_3 := NB194_188.out
   refine skip_ (w1 := ?_) (by rfl) rfl ?_ ?_
   rotate_left
   ·go_simp
    rfl
   refine hK.out _ _ ⟨((cell_far (p := ⟨gb194, _, none⟩) NB186_194.out _).trans (((cell_far (p := ⟨gb194, _, none⟩) NB186_194.out _).trans (hHeld.1)))), ((cell_far (p := ⟨gb194, _, none⟩) NB186_194.out _).trans (((cell_far (p := ⟨gb194, _, none⟩) NB186_194.out _).trans (hHeld.2))))⟩ (fun hHeld => ?_)
   clear hK K
   refine pure_ (i := 8) (N := some 8) (v := ?_) (a' := ?_) #[true, true, true, true, true, true, true, true, true] rfl rfl (any_of HT_.out (by kernel_rfl)) (fun _ _ _ h => h) (Or.inl ⟨by rfl, ?_⟩) ?_ ?_
   rotate_left
   ·intro w'
    go_simp
    with_reducible rfl
   rotate_left
   ·simp only [Act.put, List.setIfInBounds_toArray, List.set_cons_zero, List.set_cons_succ, i64_w, i32_w]
    rfl
   refine done_ (done_of HT_.out (by kernel_rfl)) ?_
   have hnb20 := NB185_186.out
   have hnc20 := NB186_185.out
   have hnb21 := NB185_187.out
   have hnc21 := NB187_185.out
   have hnb22 := NB185_188.out
   have hnc22 := NB188_185.out
   have hnb23 := NB185_194.out
   have hnc23 := NB194_185.out
   have hcz24_0 : w17.cell? ⟨gb185, 0, none⟩ = some (.int .i64 a0_0) := (blk_cell BK185.out 0).trans rfl
   have hcz24_1 : w17.cell? ⟨gb185, 1, none⟩ = some (.int .i64 a0_1) := (blk_cell BK185.out 1).trans rfl
   have hfz24_0 := blk_frozen BK185.out 0
   have hfz24_1 := blk_frozen BK185.out 1
   have hnb25 := NB194_186.out
   have hnc25 := NB186_194.out
   have hnb26 := NB194_187.out
   have hnc26 := NB187_194.out
   have hnb27 := NB194_188.out
   have hnc27 := NB188_194.out
   have hcz28_0 : w17.cell? ⟨gb194, 0, none⟩ = some (.int .i64 0) := (blk_cell BK194.out 0).trans rfl
   have hcz28_1 : w17.cell? ⟨gb194, 1, none⟩ = some (.int .i64 0) := (blk_cell BK194.out 1).trans rfl
   have hfz28_0 := blk_frozen BK194.out 0
   have hfz28_1 := blk_frozen BK194.out 1
   try go_wp2_with (first | ((with_reducible refine gate_callee (f := 14) rfl ?_); refine goesL_ (some 25) rfl rfl Try.func14 (by kernel_rfl) rfl #[.agg #[.int .i64 a0_0, .int .i64 a0_1], .agg #[.int .i64 t191, .int .i64 t192]] rfl (by (try simp only [List.map_toArray, List.map_cons, List.map_nil]); first | done | rfl | (simp only [List.length_drop, List.length_take]; rfl)) ?_; (with_reducible refine (rat_Mul.calls k a0_0 a0_1 t191 t192 t195 t196 t197 _ A6.out).mono ?_); rintro e w29 ⟨rfl, hb⟩; refine ⟨_, rfl, ?_⟩; have n0_ := Aside0.mk (blk_below (g := gb185) (o := .cells #[.int .i64 a0_0, .int .i64 a0_1] 23 (0, 0)) (by (repeat (first | (with_reducible first | apply blk_drewN | apply blk_drew | apply blk_alloc) | refine blk_far ?_ NB185_194.out _)); exact BK185.out) hb); have n1_ := Aside0.mk (blk_below (g := gb186) (o := .cells #[.int .i64 a1_0, .int .i64 a1_1] 23 (0, 0)) (by (repeat (first | (with_reducible first | apply blk_drewN | apply blk_drew | apply blk_alloc) | refine blk_far ?_ NB186_194.out _)); exact BK186.out) hb); have n2_ := Aside0.mk (blk_below (g := gb187) (o := .cells #[.int .i64 0, .int .i64 0] 23 (0, 0)) (by (repeat (first | (with_reducible first | apply blk_drewN | apply blk_drew | apply blk_alloc) | refine blk_far ?_ NB187_194.out _)); exact BK187.out) hb); have n3_ := Aside0.mk (blk_below (g := gb188) (o := .cells #[.int .i64 0, .int .i64 0] 23 (0, 0)) (by (repeat (first | (with_reducible first | apply blk_drewN | apply blk_drew | apply blk_alloc) | refine blk_far ?_ NB188_194.out _)); exact BK188.out) hb); have n4_ := Aside0.mk (blk_below (g := gb194) (o := .cells #[.int .i64 t191, .int .i64 t192] 23 (0, 0)) (by (with_reducible repeat (first | apply blk_drewN | apply blk_drew | apply blk_alloc)); refine blk_put (cs := #[.int .i64 t191, .int .i64 0]) ?_ 1 _ rfl; (with_reducible repeat (first | apply blk_drewN | apply blk_drew | apply blk_alloc)); refine blk_put (cs := #[.int .i64 0, .int .i64 0]) ?_ 0 _ rfl; (with_reducible repeat (first | apply blk_drewN | apply blk_drew | apply blk_alloc)); exact BK194.out) hb); have n5_ := Aside0.mk (below_step (by repeat (first | (with_reducible first | exact HB.out | apply below_alloc | apply pw_below_drewN | apply below_drew1 | refine below_set ?_ GE185.out | refine below_set ?_ GE186.out | refine below_set ?_ GE187.out | refine below_set ?_ GE188.out | refine below_set ?_ GE194.out) | exact HB.out)) hb); clear BK185; clear BK186; clear BK187; clear BK188; clear BK194; clear HB; have BK185 := n0_; have BK186 := n1_; have BK187 := n2_; have BK188 := n3_; have BK194 := n4_; have HB := n5_; clear n0_ n1_ n2_ n3_ n4_ n5_; (try clear hb); (try clear hb2); (try clear hk); (try clear hi)) | ((with_reducible refine gate_dst (N := 9) rfl ?_); refine box_event ?hg (N := 9) ?hd (cs := #[.int .i64 0, .int .i64 0]) (t := 23) ?hr ?_; (case hd => rfl); (case hg => rfl); (case hr => first | (go_simp; done) | (go_simp; rfl)); intro gb198 hg w30 hbox hb; have n0_ := Aside0.mk (blk_below (g := gb185) (o := .cells #[.int .i64 a0_0, .int .i64 a0_1] 23 (0, 0)) (by (with_reducible repeat (first | apply blk_drewN | apply blk_drew | apply blk_alloc)); exact BK185.out) hb); have n1_ := Aside0.mk (blk_below (g := gb186) (o := .cells #[.int .i64 a1_0, .int .i64 a1_1] 23 (0, 0)) (by (with_reducible repeat (first | apply blk_drewN | apply blk_drew | apply blk_alloc)); exact BK186.out) hb); have n2_ := Aside0.mk (blk_below (g := gb187) (o := .cells #[.int .i64 0, .int .i64 0] 23 (0, 0)) (by (with_reducible repeat (first | apply blk_drewN | apply blk_drew | apply blk_alloc)); exact BK187.out) hb); have n3_ := Aside0.mk (blk_below (g := gb188) (o := .cells #[.int .i64 0, .int .i64 0] 23 (0, 0)) (by (with_reducible repeat (first | apply blk_drewN | apply blk_drew | apply blk_alloc)); exact BK188.out) hb); have n4_ := Aside0.mk (blk_below (g := gb194) (o := .cells #[.int .i64 t191, .int .i64 t192] 23 (0, 0)) (by (with_reducible repeat (first | apply blk_drewN | apply blk_drew | apply blk_alloc)); exact BK194.out) hb); have n5_ := Aside0.mk (below_step (by repeat (first | (with_reducible first | exact HB.out | apply below_alloc | apply pw_below_drewN | apply below_drew1 | refine below_set ?_ GE185.out | refine below_set ?_ GE186.out | refine below_set ?_ GE187.out | refine below_set ?_ GE188.out | refine below_set ?_ GE194.out) | exact HB.out)) hb); have n6_ := Aside0.mk (hbox); have n7_ := Aside0.mk ((by rw [hg]; exact (below_size (by repeat (first | (with_reducible first | exact HB.out | apply below_alloc | apply pw_below_drewN | apply below_drew1 | refine below_set ?_ GE185.out | refine below_set ?_ GE186.out | refine below_set ?_ GE187.out | refine below_set ?_ GE188.out | refine below_set ?_ GE194.out) | exact HB.out))) : w.heap.size ≤ gb198)); have n8_ := Aside0.mk ((by rw [hg]; exact (below_size (by repeat (first | (with_reducible first | exact HB.out | apply below_alloc | apply pw_below_drewN | apply below_drew1 | refine below_set ?_ GE185.out | refine below_set ?_ GE186.out | refine below_set ?_ GE187.out | refine below_set ?_ GE188.out | refine below_set ?_ GE194.out) | exact HB.out))) : w.heap.size ≤ gb198)); have n9_ := Aside0.mk ((by rw [hg]; exact Nat.ne_of_lt (blk_lt (g := gb185) (o := .cells #[.int .i64 a0_0, .int .i64 a0_1] 23 (0, 0)) (by (with_reducible repeat (first | apply blk_drewN | apply blk_drew | apply blk_alloc)); exact BK185.out)) : gb185 ≠ gb198)); have n10_ := Aside0.mk ((by rw [hg]; exact Nat.ne_of_gt (blk_lt (g := gb185) (o := .cells #[.int .i64 a0_0, .int .i64 a0_1] 23 (0, 0)) (by (with_reducible repeat (first | apply blk_drewN | apply blk_drew | apply blk_alloc)); exact BK185.out)) : gb198 ≠ gb185)); have n11_ := Aside0.mk ((by rw [hg]; exact Nat.ne_of_lt (blk_lt (g := gb186) (o := .cells #[.int .i64 a1_0, .int .i64 a1_1] 23 (0, 0)) (by (with_reducible repeat (first | apply blk_drewN | apply blk_drew | apply blk_alloc)); exact BK186.out)) : gb186 ≠ gb198)); have n12_ := Aside0.mk ((by rw [hg]; exact Nat.ne_of_gt (blk_lt (g := gb186) (o := .cells #[.int .i64 a1_0, .int .i64 a1_1] 23 (0, 0)) (by (with_reducible repeat (first | apply blk_drewN | apply blk_drew | apply blk_alloc)); exact BK186.out)) : gb198 ≠ gb186)); have n13_ := Aside0.mk ((by rw [hg]; exact Nat.ne_of_lt (blk_lt (g := gb187) (o := .cells #[.int .i64 0, .int .i64 0] 23 (0, 0)) (by (with_reducible repeat (first | apply blk_drewN | apply blk_drew | apply blk_alloc)); exact BK187.out)) : gb187 ≠ gb198)); have n14_ := Aside0.mk ((by rw [hg]; exact Nat.ne_of_gt (blk_lt (g := gb187) (o := .cells #[.int .i64 0, .int .i64 0] 23 (0, 0)) (by (with_reducible repeat (first | apply blk_drewN | apply blk_drew | apply blk_alloc)); exact BK187.out)) : gb198 ≠ gb187)); have n15_ := Aside0.mk ((by rw [hg]; exact Nat.ne_of_lt (blk_lt (g := gb188) (o := .cells #[.int .i64 0, .int .i64 0] 23 (0, 0)) (by (with_reducible repeat (first | apply blk_drewN | apply blk_drew | apply blk_alloc)); exact BK188.out)) : gb188 ≠ gb198)); have n16_ := Aside0.mk ((by rw [hg]; exact Nat.ne_of_gt (blk_lt (g := gb188) (o := .cells #[.int .i64 0, .int .i64 0] 23 (0, 0)) (by (with_reducible repeat (first | apply blk_drewN | apply blk_drew | apply blk_alloc)); exact BK188.out)) : gb198 ≠ gb188)); have n17_ := Aside0.mk ((by rw [hg]; exact Nat.ne_of_lt (blk_lt (g := gb194) (o := .cells #[.int .i64 t191, .int .i64 t192] 23 (0, 0)) (by (with_reducible repeat (first | apply blk_drewN | apply blk_drew | apply blk_alloc)); exact BK194.out)) : gb194 ≠ gb198)); have n18_ := Aside0.mk ((by rw [hg]; exact Nat.ne_of_gt (blk_lt (g := gb194) (o := .cells #[.int .i64 t191, .int .i64 t192] 23 (0, 0)) (by (with_reducible repeat (first | apply blk_drewN | apply blk_drew | apply blk_alloc)); exact BK194.out)) : gb198 ≠ gb194)); clear BK185; clear BK186; clear BK187; clear BK188; clear BK194; clear HB; have BK185 := n0_; have BK186 := n1_; have BK187 := n2_; have BK188 := n3_; have BK194 := n4_; have HB := n5_; have BK198 := n6_; have GW198 := n7_; have GE198 := n8_; have NB185_198 := n9_; have NB198_185 := n10_; have NB186_198 := n11_; have NB198_186 := n12_; have NB187_198 := n13_; have NB198_187 := n14_; have NB188_198 := n15_; have NB198_188 := n16_; have NB194_198 := n17_; have NB198_194 := n18_; clear n0_ n1_ n2_ n3_ n4_ n5_ n6_ n7_ n8_ n9_ n10_ n11_ n12_ n13_ n14_ n15_ n16_ n17_ n18_; clear hb hbox hg; have hnb31 := NB198_185.out; have hnc31 := NB185_198.out; have hnb32 := NB198_186.out; have hnc32 := NB186_198.out; have hnb33 := NB198_187.out; have hnc33 := NB187_198.out; have hnb34 := NB198_188.out; have hnc34 := NB188_198.out; have hnb35 := NB198_194.out; have hnc35 := NB194_198.out; have hcz36_0 : w30.cell? ⟨gb198, 0, none⟩ = some (.int .i64 0) := (blk_cell BK198.out 0).trans rfl; have hcz36_1 : w30.cell? ⟨gb198, 1, none⟩ = some (.int .i64 0) := (blk_cell BK198.out 1).trans rfl; have hfz36_0 := blk_frozen BK198.out 0; have hfz36_1 := blk_frozen BK198.out 1; have hcz37_0 : w30.cell? ⟨gb185, 0, none⟩ = some (.int .i64 a0_0) := (blk_cell BK185.out 0).trans rfl; have hcz37_1 : w30.cell? ⟨gb185, 1, none⟩ = some (.int .i64 a0_1) := (blk_cell BK185.out 1).trans rfl; have hfz37_0 := blk_frozen BK185.out 0; have hfz37_1 := blk_frozen BK185.out 1; have hnb38 := NB186_187.out; have hnc38 := NB187_186.out; have hnb39 := NB186_188.out; have hnc39 := NB188_186.out; have hcz40_0 : w30.cell? ⟨gb186, 0, none⟩ = some (.int .i64 a1_0) := (blk_cell BK186.out 0).trans rfl; have hcz40_1 : w30.cell? ⟨gb186, 1, none⟩ = some (.int .i64 a1_1) := (blk_cell BK186.out 1).trans rfl; have hfz40_0 := blk_frozen BK186.out 0; have hfz40_1 := blk_frozen BK186.out 1) | ((with_reducible refine gate_callee (f := 14) rfl ?_); refine goesL_ (some 36) rfl rfl Try.func14 (by kernel_rfl) rfl #[.agg #[.int .i64 a0_0, .int .i64 a0_1], .agg #[.int .i64 a1_0, .int .i64 a1_1]] rfl (by (try simp only [List.map_toArray, List.map_cons, List.map_nil]); first | done | rfl | (simp only [List.length_drop, List.length_take]; rfl)) ?_; (with_reducible refine (rat_Mul.calls k a0_0 a0_1 a1_0 a1_1 t199 t200 t201 _ A8.out).mono ?_); rintro e w41 ⟨rfl, hb⟩; refine ⟨_, rfl, ?_⟩; have n0_ := Aside0.mk (blk_below (g := gb185) (o := .cells #[.int .i64 a0_0, .int .i64 a0_1] 23 (0, 0)) (by (repeat (first | (with_reducible first | apply blk_drewN | apply blk_drew | apply blk_alloc) | refine blk_far ?_ NB185_198.out _)); exact BK185.out) hb); have n1_ := Aside0.mk (blk_below (g := gb186) (o := .cells #[.int .i64 a1_0, .int .i64 a1_1] 23 (0, 0)) (by (repeat (first | (with_reducible first | apply blk_drewN | apply blk_drew | apply blk_alloc) | refine blk_far ?_ NB186_198.out _)); exact BK186.out) hb); have n2_ := Aside0.mk (blk_below (g := gb187) (o := .cells #[.int .i64 0, .int .i64 0] 23 (0, 0)) (by (repeat (first | (with_reducible first | apply blk_drewN | apply blk_drew | apply blk_alloc) | refine blk_far ?_ NB187_198.out _)); exact BK187.out) hb); have n3_ := Aside0.mk (blk_below (g := gb188) (o := .cells #[.int .i64 0, .int .i64 0] 23 (0, 0)) (by (repeat (first | (with_reducible first | apply blk_drewN | apply blk_drew | apply blk_alloc) | refine blk_far ?_ NB188_198.out _)); exact BK188.out) hb); have n4_ := Aside0.mk (blk_below (g := gb194) (o := .cells #[.int .i64 t191, .int .i64 t192] 23 (0, 0)) (by (repeat (first | (with_reducible first | apply blk_drewN | apply blk_drew | apply blk_alloc) | refine blk_far ?_ NB194_198.out _)); exact BK194.out) hb); have n5_ := Aside0.mk (blk_below (g := gb198) (o := .cells #[.int .i64 t195, .int .i64 t196] 23 (0, 0)) (by (with_reducible repeat (first | apply blk_drewN | apply blk_drew | apply blk_alloc)); refine blk_put (cs := #[.int .i64 t195, .int .i64 0]) ?_ 1 _ rfl; (with_reducible repeat (first | apply blk_drewN | apply blk_drew | apply blk_alloc)); refine blk_put (cs := #[.int .i64 0, .int .i64 0]) ?_ 0 _ rfl; (with_reducible repeat (first | apply blk_drewN | apply blk_drew | apply blk_alloc)); exact BK198.out) hb); have n6_ := Aside0.mk (below_step (by repeat (first | (with_reducible first | exact HB.out | apply below_alloc | apply pw_below_drewN | apply below_drew1 | refine below_set ?_ GE185.out | refine below_set ?_ GE186.out | refine below_set ?_ GE187.out | refine below_set ?_ GE188.out | refine below_set ?_ GE194.out | refine below_set ?_ GE198.out) | exact HB.out)) hb); clear BK185; clear BK186; clear BK187; clear BK188; clear BK194; clear BK198; clear HB; have BK185 := n0_; have BK186 := n1_; have BK187 := n2_; have BK188 := n3_; have BK194 := n4_; have BK198 := n5_; have HB := n6_; clear n0_ n1_ n2_ n3_ n4_ n5_ n6_; (try clear hb); (try clear hb2); (try clear hk); (try clear hi)) | ((with_reducible refine gate_dst (N := 10) rfl ?_); refine box_event ?hg (N := 10) ?hd (cs := #[.int .i64 0, .int .i64 0]) (t := 23) ?hr ?_; (case hd => rfl); (case hg => rfl); (case hr => first | (go_simp; done) | (go_simp; rfl)); intro gb202 hg w42 hbox hb; have n0_ := Aside0.mk (blk_below (g := gb185) (o := .cells #[.int .i64 a0_0, .int .i64 a0_1] 23 (0, 0)) (by (with_reducible repeat (first | apply blk_drewN | apply blk_drew | apply blk_alloc)); exact BK185.out) hb); have n1_ := Aside0.mk (blk_below (g := gb186) (o := .cells #[.int .i64 a1_0, .int .i64 a1_1] 23 (0, 0)) (by (with_reducible repeat (first | apply blk_drewN | apply blk_drew | apply blk_alloc)); exact BK186.out) hb); have n2_ := Aside0.mk (blk_below (g := gb187) (o := .cells #[.int .i64 0, .int .i64 0] 23 (0, 0)) (by (with_reducible repeat (first | apply blk_drewN | apply blk_drew | apply blk_alloc)); exact BK187.out) hb); have n3_ := Aside0.mk (blk_below (g := gb188) (o := .cells #[.int .i64 0, .int .i64 0] 23 (0, 0)) (by (with_reducible repeat (first | apply blk_drewN | apply blk_drew | apply blk_alloc)); exact BK188.out) hb); have n4_ := Aside0.mk (blk_below (g := gb194) (o := .cells #[.int .i64 t191, .int .i64 t192] 23 (0, 0)) (by (with_reducible repeat (first | apply blk_drewN | apply blk_drew | apply blk_alloc)); exact BK194.out) hb); have n5_ := Aside0.mk (blk_below (g := gb198) (o := .cells #[.int .i64 t195, .int .i64 t196] 23 (0, 0)) (by (with_reducible repeat (first | apply blk_drewN | apply blk_drew | apply blk_alloc)); exact BK198.out) hb); have n6_ := Aside0.mk (below_step (by repeat (first | (with_reducible first | exact HB.out | apply below_alloc | apply pw_below_drewN | apply below_drew1 | refine below_set ?_ GE185.out | refine below_set ?_ GE186.out | refine below_set ?_ GE187.out | refine below_set ?_ GE188.out | refine below_set ?_ GE194.out | refine below_set ?_ GE198.out) | exact HB.out)) hb); have n7_ := Aside0.mk (hbox); have n8_ := Aside0.mk ((by rw [hg]; exact (below_size (by repeat (first | (with_reducible first | exact HB.out | apply below_alloc | apply pw_below_drewN | apply below_drew1 | refine below_set ?_ GE185.out | refine below_set ?_ GE186.out | refine below_set ?_ GE187.out | refine below_set ?_ GE188.out | refine below_set ?_ GE194.out | refine below_set ?_ GE198.out) | exact HB.out))) : w.heap.size ≤ gb202)); have n9_ := Aside0.mk ((by rw [hg]; exact (below_size (by repeat (first | (with_reducible first | exact HB.out | apply below_alloc | apply pw_below_drewN | apply below_drew1 | refine below_set ?_ GE185.out | refine below_set ?_ GE186.out | refine below_set ?_ GE187.out | refine below_set ?_ GE188.out | refine below_set ?_ GE194.out | refine below_set ?_ GE198.out) | exact HB.out))) : w.heap.size ≤ gb202)); have n10_ := Aside0.mk ((by rw [hg]; exact Nat.ne_of_lt (blk_lt (g := gb185) (o := .cells #[.int .i64 a0_0, .int .i64 a0_1] 23 (0, 0)) (by (with_reducible repeat (first | apply blk_drewN | apply blk_drew | apply blk_alloc)); exact BK185.out)) : gb185 ≠ gb202)); have n11_ := Aside0.mk ((by rw [hg]; exact Nat.ne_of_gt (blk_lt (g := gb185) (o := .cells #[.int .i64 a0_0, .int .i64 a0_1] 23 (0, 0)) (by (with_reducible repeat (first | apply blk_drewN | apply blk_drew | apply blk_alloc)); exact BK185.out)) : gb202 ≠ gb185)); have n12_ := Aside0.mk ((by rw [hg]; exact Nat.ne_of_lt (blk_lt (g := gb186) (o := .cells #[.int .i64 a1_0, .int .i64 a1_1] 23 (0, 0)) (by (with_reducible repeat (first | apply blk_drewN | apply blk_drew | apply blk_alloc)); exact BK186.out)) : gb186 ≠ gb202)); have n13_ := Aside0.mk ((by rw [hg]; exact Nat.ne_of_gt (blk_lt (g := gb186) (o := .cells #[.int .i64 a1_0, .int .i64 a1_1] 23 (0, 0)) (by (with_reducible repeat (first | apply blk_drewN | apply blk_drew | apply blk_alloc)); exact BK186.out)) : gb202 ≠ gb186)); have n14_ := Aside0.mk ((by rw [hg]; exact Nat.ne_of_lt (blk_lt (g := gb187) (o := .cells #[.int .i64 0, .int .i64 0] 23 (0, 0)) (by (with_reducible repeat (first | apply blk_drewN | apply blk_drew | apply blk_alloc)); exact BK187.out)) : gb187 ≠ gb202)); have n15_ := Aside0.mk ((by rw [hg]; exact Nat.ne_of_gt (blk_lt (g := gb187) (o := .cells #[.int .i64 0, .int .i64 0] 23 (0, 0)) (by (with_reducible repeat (first | apply blk_drewN | apply blk_drew | apply blk_alloc)); exact BK187.out)) : gb202 ≠ gb187)); have n16_ := Aside0.mk ((by rw [hg]; exact Nat.ne_of_lt (blk_lt (g := gb188) (o := .cells #[.int .i64 0, .int .i64 0] 23 (0, 0)) (by (with_reducible repeat (first | apply blk_drewN | apply blk_drew | apply blk_alloc)); exact BK188.out)) : gb188 ≠ gb202)); have n17_ := Aside0.mk ((by rw [hg]; exact Nat.ne_of_gt (blk_lt (g := gb188) (o := .cells #[.int .i64 0, .int .i64 0] 23 (0, 0)) (by (with_reducible repeat (first | apply blk_drewN | apply blk_drew | apply blk_alloc)); exact BK188.out)) : gb202 ≠ gb188)); have n18_ := Aside0.mk ((by rw [hg]; exact Nat.ne_of_lt (blk_lt (g := gb194) (o := .cells #[.int .i64 t191, .int .i64 t192] 23 (0, 0)) (by (with_reducible repeat (first | apply blk_drewN | apply blk_drew | apply blk_alloc)); exact BK194.out)) : gb194 ≠ gb202)); have n19_ := Aside0.mk ((by rw [hg]; exact Nat.ne_of_gt (blk_lt (g := gb194) (o := .cells #[.int .i64 t191, .int .i64 t192] 23 (0, 0)) (by (with_reducible repeat (first | apply blk_drewN | apply blk_drew | apply blk_alloc)); exact BK194.out)) : gb202 ≠ gb194)); have n20_ := Aside0.mk ((by rw [hg]; exact Nat.ne_of_lt (blk_lt (g := gb198) (o := .cells #[.int .i64 t195, .int .i64 t196] 23 (0, 0)) (by (with_reducible repeat (first | apply blk_drewN | apply blk_drew | apply blk_alloc)); exact BK198.out)) : gb198 ≠ gb202)); have n21_ := Aside0.mk ((by rw [hg]; exact Nat.ne_of_gt (blk_lt (g := gb198) (o := .cells #[.int .i64 t195, .int .i64 t196] 23 (0, 0)) (by (with_reducible repeat (first | apply blk_drewN | apply blk_drew | apply blk_alloc)); exact BK198.out)) : gb202 ≠ gb198)); clear BK185; clear BK186; clear BK187; clear BK188; clear BK194; clear BK198; clear HB; have BK185 := n0_; have BK186 := n1_; have BK187 := n2_; have BK188 := n3_; have BK194 := n4_; have BK198 := n5_; have HB := n6_; have BK202 := n7_; have GW202 := n8_; have GE202 := n9_; have NB185_202 := n10_; have NB202_185 := n11_; have NB186_202 := n12_; have NB202_186 := n13_; have NB187_202 := n14_; have NB202_187 := n15_; have NB188_202 := n16_; have NB202_188 := n17_; have NB194_202 := n18_; have NB202_194 := n19_; have NB198_202 := n20_; have NB202_198 := n21_; clear n0_ n1_ n2_ n3_ n4_ n5_ n6_ n7_ n8_ n9_ n10_ n11_ n12_ n13_ n14_ n15_ n16_ n17_ n18_ n19_ n20_ n21_; clear hb hbox hg; have hnb43 := NB202_185.out; have hnc43 := NB185_202.out; have hnb44 := NB202_186.out; have hnc44 := NB186_202.out; have hnb45 := NB202_187.out; have hnc45 := NB187_202.out; have hnb46 := NB202_188.out; have hnc46 := NB188_202.out; have hnb47 := NB202_194.out; have hnc47 := NB194_202.out; have hnb48 := NB202_198.out; have hnc48 := NB198_202.out; have hcz49_0 : w42.cell? ⟨gb202, 0, none⟩ = some (.int .i64 0) := (blk_cell BK202.out 0).trans rfl; have hcz49_1 : w42.cell? ⟨gb202, 1, none⟩ = some (.int .i64 0) := (blk_cell BK202.out 1).trans rfl; have hfz49_0 := blk_frozen BK202.out 0; have hfz49_1 := blk_frozen BK202.out 1))
   have n0_ : Aside0 (((w42.setCell ⟨gb202, 0, none⟩ (.int .i64 t199)).setCell ⟨gb202, 1, none⟩ (.int .i64 t200)).heap[gb185]? = some (.cells #[.int .i64 a0_0, .int .i64 a0_1] 23 (0, 0))) := ⟨by (repeat (first | (with_reducible first | apply blk_drewN | apply blk_drew | apply blk_alloc) | refine blk_far ?_ NB185_202.out _)); exact BK185.out⟩
   have n1_ : Aside0 (((w42.setCell ⟨gb202, 0, none⟩ (.int .i64 t199)).setCell ⟨gb202, 1, none⟩ (.int .i64 t200)).heap[gb186]? = some (.cells #[.int .i64 a1_0, .int .i64 a1_1] 23 (0, 0))) := ⟨by (repeat (first | (with_reducible first | apply blk_drewN | apply blk_drew | apply blk_alloc) | refine blk_far ?_ NB186_202.out _)); exact BK186.out⟩
   have n2_ : Aside0 (((w42.setCell ⟨gb202, 0, none⟩ (.int .i64 t199)).setCell ⟨gb202, 1, none⟩ (.int .i64 t200)).heap[gb187]? = some (.cells #[.int .i64 0, .int .i64 0] 23 (0, 0))) := ⟨by (repeat (first | (with_reducible first | apply blk_drewN | apply blk_drew | apply blk_alloc) | refine blk_far ?_ NB187_202.out _)); exact BK187.out⟩
   have n3_ : Aside0 (((w42.setCell ⟨gb202, 0, none⟩ (.int .i64 t199)).setCell ⟨gb202, 1, none⟩ (.int .i64 t200)).heap[gb188]? = some (.cells #[.int .i64 0, .int .i64 0] 23 (0, 0))) := ⟨by (repeat (first | (with_reducible first | apply blk_drewN | apply blk_drew | apply blk_alloc) | refine blk_far ?_ NB188_202.out _)); exact BK188.out⟩
   have n4_ : Aside0 (((w42.setCell ⟨gb202, 0, none⟩ (.int .i64 t199)).setCell ⟨gb202, 1, none⟩ (.int .i64 t200)).heap[gb194]? = some (.cells #[.int .i64 t191, .int .i64 t192] 23 (0, 0))) := ⟨by (repeat (first | (with_reducible first | apply blk_drewN | apply blk_drew | apply blk_alloc) | refine blk_far ?_ NB194_202.out _)); exact BK194.out⟩
   have n5_ : Aside0 (((w42.setCell ⟨gb202, 0, none⟩ (.int .i64 t199)).setCell ⟨gb202, 1, none⟩ (.int .i64 t200)).heap[gb198]? = some (.cells #[.int .i64 t195, .int .i64 t196] 23 (0, 0))) := ⟨by (repeat (first | (with_reducible first | apply blk_drewN | apply blk_drew | apply blk_alloc) | refine blk_far ?_ NB198_202.out _)); exact BK198.out⟩
   have n6_ : Aside0 (((w42.setCell ⟨gb202, 0, none⟩ (.int .i64 t199)).setCell ⟨gb202, 1, none⟩ (.int .i64 t200)).heap[gb202]? = some (.cells #[.int .i64 t199, .int .i64 t200] 23 (0, 0))) := ⟨by (with_reducible repeat (first | apply blk_drewN | apply blk_drew | apply blk_alloc)); refine blk_put (cs := #[.int .i64 t199, .int .i64 0]) ?_ 1 _ rfl; (with_reducible repeat (first | apply blk_drewN | apply blk_drew | apply blk_alloc)); refine blk_put (cs := #[.int .i64 0, .int .i64 0]) ?_ 0 _ rfl; (with_reducible repeat (first | apply blk_drewN | apply blk_drew | apply blk_alloc)); exact BK202.out⟩
   have n7_ : Aside0 (Below w.heap.size w ((w42.setCell ⟨gb202, 0, none⟩ (.int .i64 t199)).setCell ⟨gb202, 1, none⟩ (.int .i64 t200))) := ⟨by repeat (first | (with_reducible first | exact HB.out | apply below_alloc | apply pw_below_drewN | apply below_drew1 | refine below_set ?_ GE185.out | refine below_set ?_ GE186.out | refine below_set ?_ GE187.out | refine below_set ?_ GE188.out | refine below_set ?_ GE194.out | refine below_set ?_ GE198.out | refine below_set ?_ GE202.out) | exact HB.out)⟩
   (try clear BK185)
   (try clear BK186)
   (try clear BK187)
   (try clear BK188)
   (try clear BK194)
   (try clear BK198)
   (try clear BK202)
   (try clear HB)
   generalize ((w42.setCell ⟨gb202, 0, none⟩ (.int .i64 t199)).setCell ⟨gb202, 1, none⟩ (.int .i64 t200)) = w50 at n0_ n1_ n2_ n3_ n4_ n5_ n6_ n7_ ⊢
   have BK185 := n0_
   have BK186 := n1_
   have BK187 := n2_
   have BK188 := n3_
   have BK194 := n4_
   have BK198 := n5_
   have BK202 := n6_
   have HB := n7_
   clear n0_ n1_ n2_ n3_ n4_ n5_ n6_ n7_
   have n0_ := Aside0.mk (blk_drew BK185.out)
   have n1_ := Aside0.mk (blk_drew BK186.out)
   have n2_ := Aside0.mk (blk_drew BK187.out)
   have n3_ := Aside0.mk (blk_drew BK188.out)
   have n4_ := Aside0.mk (blk_drew BK194.out)
   have n5_ := Aside0.mk (blk_drew BK198.out)
   have n6_ := Aside0.mk (blk_drew BK202.out)
   have n7_ := Aside0.mk (below_drew1 HB.out)
   clear BK185
   clear BK186
   clear BK187
   clear BK188
   clear BK194
   clear BK198
   clear BK202
   clear HB
   have BK185 := n0_
   have BK186 := n1_
   have BK187 := n2_
   have BK188 := n3_
   have BK194 := n4_
   have BK198 := n5_
   have BK202 := n6_
   have HB := n7_
   clear n0_ n1_ n2_ n3_ n4_ n5_ n6_ n7_
   refine start_ (n := 6) (S := fun w' => w'.cell? ⟨gb198, 0, none⟩ = some (.int .i64 t195) ∧ w'.cell? ⟨gb198, 1, none⟩ = some (.int .i64 t196) ∧ w'.cell? ⟨gb202, 0, none⟩ = some (.int .i64 t199) ∧ w'.cell? ⟨gb202, 1, none⟩ = some (.int .i64 t200)) (ds := []) #[false, false, false, false, false, false] (by kernel_rfl) rfl rfl ⟨(blk_cell BK198.out 0).trans rfl, (blk_cell BK198.out 1).trans rfl, (blk_cell BK202.out 0).trans rfl, (blk_cell BK202.out 1).trans rfl⟩ (fun hHeld => ?_)
   generalize w50.drew = w51 at BK185 BK186 BK187 BK188 BK194 BK198 BK202 HB hHeld ⊢
   refine pure_ (i := 2) (N := some 41) (v := ?_) (a' := ?_) #[false, false, true, false, false, false] rfl rfl (by kernel_rfl) (fun _ _ _ h => h) (Or.inl ⟨by rfl, ?_⟩) ?_ ?_
   rotate_left
   ·intro w'
    go_simp
    with_reducible rfl
   rotate_left
   ·simp only [Act.put, List.setIfInBounds_toArray, List.set_cons_zero, List.set_cons_succ, i64_w, i32_w]
    rfl
   refine take_ (i := 0) (N := some 39) (v := ?_) (a' := ?_) #[true, false, true, false, false, false] rfl rfl (by kernel_rfl) (fun _ _ _ h => h) (Or.inl ⟨by rfl, ?_⟩) hHeld ?_ ?_
   rotate_left
   ·rintro w' ⟨s0, s1, s2, s3⟩
    go_simp
    with_reducible rfl
   rotate_left
   ·simp only [Act.put, List.setIfInBounds_toArray, List.set_cons_zero, List.set_cons_succ, i64_w, i32_w]
    rfl
   refine take_ (i := 1) (N := some 40) (v := ?_) (a' := ?_) #[true, true, true, false, false, false] rfl rfl (by kernel_rfl) (fun _ _ _ h => h) (Or.inl ⟨by rfl, ?_⟩) hHeld ?_ ?_
   rotate_left
   ·rintro w' ⟨s0, s1, s2, s3⟩
    go_simp
    with_reducible rfl
   rotate_left
   ·simp only [Act.put, List.setIfInBounds_toArray, List.set_cons_zero, List.set_cons_succ, i64_w, i32_w]
    rfl
   refine one_ (i := 3) (N := none) #[true, true, true, true, false, false] rfl rfl (by kernel_rfl) (by decide) (fun K hK => ?_)
   have hs52 : w51.cell? ⟨gb187, 0, none⟩ = some (.int .i64 0) := (blk_cell BK187.out 0).trans rfl
   have hfs52 := blk_frozen BK187.out 0
   have hns52_0 := NB185_187.out
   have hns52_1 := NB186_187.out
   have hns52_3 := NB188_187.out
   have hns52_4 := NB194_187.out
   have hns52_5 := NB198_187.out
   have hns52_6 := NB202_187.out
   have hms52_0 := NB187_185.out
   have hms52_1 := NB187_186.out
   have hms52_3 := NB187_188.out
   have hms52_4 := NB187_194.out
   have hms52_5 := NB187_198.out
   have hms52_6 := NB187_202.out
   have hs53 : w51.cell? ⟨gb187, 1, none⟩ = some (.int .i64 0) := (blk_cell BK187.out 1).trans rfl
   have hfs53 := blk_frozen BK187.out 1
   have hns53_0 := NB185_187.out
   have hns53_1 := NB186_187.out
   have hns53_3 := NB188_187.out
   have hns53_4 := NB194_187.out
   have hns53_5 := NB198_187.out
   have hns53_6 := NB202_187.out
   have hms53_0 := NB187_185.out
   have hms53_1 := NB187_186.out
   have hms53_3 := NB187_188.out
   have hms53_4 := NB187_194.out
   have hms53_5 := NB187_198.out
   have hms53_6 := NB187_202.out
   refine skip_ (w1 := ?_) (by rfl) rfl ?_ ?_
   rotate_left
   ·go_simp
    rfl
   refine hK.out _ _ ⟨((cell_far (p := ⟨gb187, _, none⟩) NB198_187.out _).trans (((cell_far (p := ⟨gb187, _, none⟩) NB198_187.out _).trans (hHeld.1)))), ((cell_far (p := ⟨gb187, _, none⟩) NB198_187.out _).trans (((cell_far (p := ⟨gb187, _, none⟩) NB198_187.out _).trans (hHeld.2.1)))), ((cell_far (p := ⟨gb187, _, none⟩) NB202_187.out _).trans (((cell_far (p := ⟨gb187, _, none⟩) NB202_187.out _).trans (hHeld.2.2.1)))), ((cell_far (p := ⟨gb187, _, none⟩) NB202_187.out _).trans (((cell_far (p := ⟨gb187, _, none⟩) NB202_187.out _).trans (hHeld.2.2.2))))⟩ (fun hHeld => ?_)
   clear hK K
   refine one_ (i := 4) (N := none) #[true, true, true, true, true, false] rfl rfl (by kernel_rfl) (by decide) (fun K hK => ?_)
   have hs54 : w51.cell? ⟨gb188, 0, none⟩ = some (.int .i64 0) := (blk_cell BK188.out 0).trans rfl
   have hfs54 := blk_frozen BK188.out 0
   have hns54_0 := NB185_188.out
   have hns54_1 := NB186_188.out
   have hns54_2 := NB187_188.out
   have hns54_4 := NB194_188.out
   have hns54_5 := NB198_188.out
   have hns54_6 := NB202_188.out
   have hms54_0 := NB188_185.out
   have hms54_1 := NB188_186.out
   have hms54_2 := NB188_187.out
   have hms54_4 := NB188_194.out
   have hms54_5 := NB188_198.out
   have hms54_6 := NB188_202.out
   have hs55 : w51.cell? ⟨gb188, 1, none⟩ = some (.int .i64 0) := (blk_cell BK188.out 1).trans rfl
   have hfs55 := blk_frozen BK188.out 1
   have hns55_0 := NB185_188.out
   have hns55_1 := NB186_188.out
   have hns55_2 := NB187_188.out
   have hns55_4 := NB194_188.out
   have hns55_5 := NB198_188.out
   have hns55_6 := NB202_188.out
   have hms55_0 := NB188_185.out
   have hms55_1 := NB188_186.out
   have hms55_2 := NB188_187.out
   have hms55_4 := NB188_194.out
   have hms55_5 := NB188_198.out
   have hms55_6 := NB188_202.out
   refine skip_ (w1 := ?_) (by rfl) rfl ?_ ?_
   rotate_left
   ·go_simp
    rfl
   refine hK.out _ _ ⟨((cell_far (p := ⟨gb188, _, none⟩) NB198_188.out _).trans (((cell_far (p := ⟨gb188, _, none⟩) NB198_188.out _).trans (hHeld.1)))), ((cell_far (p := ⟨gb188, _, none⟩) NB198_188.out _).trans (((cell_far (p := ⟨gb188, _, none⟩) NB198_188.out _).trans (hHeld.2.1)))), ((cell_far (p := ⟨gb188, _, none⟩) NB202_188.out _).trans (((cell_far (p := ⟨gb188, _, none⟩) NB202_188.out _).trans (hHeld.2.2.1)))), ((cell_far (p := ⟨gb188, _, none⟩) NB202_188.out _).trans (((cell_far (p := ⟨gb188, _, none⟩) NB202_188.out _).trans (hHeld.2.2.2))))⟩ (fun hHeld => ?_)
   clear hK K
   refine pure_ (i := 5) (N := some 6) (v := ?_) (a' := ?_) #[true, true, true, true, true, true] rfl rfl (by kernel_rfl) (fun _ _ _ h => h) (Or.inl ⟨by rfl, ?_⟩) ?_ ?_
   rotate_left
   ·intro w'
    go_simp
    with_reducible rfl
   rotate_left
   ·simp only [Act.put, List.setIfInBounds_toArray, List.set_cons_zero, List.set_cons_succ, i64_w, i32_w]
    rfl
   refine done_ (by kernel_rfl) ?_
   try go_wp2
   refine bodyPost_ret (results_list (rs := [.cell 4 23, .cell 5 23, .tmp 6]) rfl (by simp) (.cell gb187 23 #[.int .i64 t195, .int .i64 t196] (0, 0) _ rfl (by (with_reducible repeat (first | apply blk_drewN | apply blk_drew | apply blk_alloc)); refine blk_far ?_ NB187_188.out _; (with_reducible repeat (first | apply blk_drewN | apply blk_drew | apply blk_alloc)); refine blk_far ?_ NB187_188.out _; (with_reducible repeat (first | apply blk_drewN | apply blk_drew | apply blk_alloc)); refine blk_put (cs := #[.int .i64 t195, .int .i64 0]) ?_ 1 _ rfl; (with_reducible repeat (first | apply blk_drewN | apply blk_drew | apply blk_alloc)); refine blk_put (cs := #[.int .i64 0, .int .i64 0]) ?_ 0 _ rfl; (with_reducible repeat (first | apply blk_drewN | apply blk_drew | apply blk_alloc)); exact BK187.out) Try.underlying23 rfl (by kernel_rfl) (.cell gb188 23 #[.int .i64 t199, .int .i64 t200] (0, 0) _ rfl (by (with_reducible repeat (first | apply blk_drewN | apply blk_drew | apply blk_alloc)); refine blk_put (cs := #[.int .i64 t199, .int .i64 0]) ?_ 1 _ rfl; (with_reducible repeat (first | apply blk_drewN | apply blk_drew | apply blk_alloc)); refine blk_put (cs := #[.int .i64 0, .int .i64 0]) ?_ 0 _ rfl; (repeat (first | (with_reducible first | apply blk_drewN | apply blk_drew | apply blk_alloc) | refine blk_far ?_ NB188_187.out _)); exact BK188.out) Try.underlying23 rfl (by kernel_rfl) (.tmp .nil)))) rfl ?_
   exact ⟨by first | rfl | (simp [errW_none, errW_some] <;> rfl) | (simp [*, errW_none, errW_some] <;> rfl), by repeat (first | (with_reducible first | exact HB.out | apply below_alloc | apply pw_below_drewN | apply below_drew1 | refine below_set ?_ GE185.out | refine below_set ?_ GE186.out | refine below_set ?_ GE187.out | refine below_set ?_ GE188.out | refine below_set ?_ GE194.out | refine below_set ?_ GE198.out | refine below_set ?_ GE202.out) | exact HB.out)⟩
  ·rw [if_neg c7] at H
   have c7b0 : (t197 == 0) = false := beq_eq_false_iff_ne.mpr c7
   have c7b1 : (t197 != 0) = true := bne_iff_ne.mpr c7
   simp only [Option.some.injEq, Prod.mk.injEq] at H
   obtain ⟨rfl, rfl, rfl, rfl, rfl⟩ := H
   go_enter Try.func39, Try.ntmps39
   try go_wp2_with (first | ((with_reducible refine gate_dst (N := 2) rfl ?_); refine box_event ?hg (N := 2) ?hd (cs := #[.int .i64 a0_0, .int .i64 a0_1]) (t := 23) ?hr ?_; (case hd => rfl); (case hg => rfl); (case hr => first | (go_simp; done) | (go_simp; rfl)); intro gb185 hg w56 hbox hb; have n0_ := Aside0.mk (below_step (by repeat (first | (with_reducible first | exact HB.out | apply below_alloc | apply pw_below_drewN | apply below_drew1) | exact HB.out)) hb); have n1_ := Aside0.mk (hbox); have n2_ := Aside0.mk ((by rw [hg]; exact (below_size (by repeat (first | (with_reducible first | exact HB.out | apply below_alloc | apply pw_below_drewN | apply below_drew1) | exact HB.out))) : w.heap.size ≤ gb185)); have n3_ := Aside0.mk ((by rw [hg]; exact (below_size (by repeat (first | (with_reducible first | exact HB.out | apply below_alloc | apply pw_below_drewN | apply below_drew1) | exact HB.out))) : w.heap.size ≤ gb185)); clear HB; have HB := n0_; have BK185 := n1_; have GW185 := n2_; have GE185 := n3_; clear n0_ n1_ n2_ n3_; clear hb hbox hg) | ((with_reducible refine gate_dst (N := 3) rfl ?_); refine box_event ?hg (N := 3) ?hd (cs := #[.int .i64 a1_0, .int .i64 a1_1]) (t := 23) ?hr ?_; (case hd => rfl); (case hg => rfl); (case hr => first | (go_simp; done) | (go_simp; rfl)); intro gb186 hg w57 hbox hb; have n0_ := Aside0.mk (blk_below (g := gb185) (o := .cells #[.int .i64 a0_0, .int .i64 a0_1] 23 (0, 0)) (by (with_reducible repeat (first | apply blk_drewN | apply blk_drew | apply blk_alloc)); exact BK185.out) hb); have n1_ := Aside0.mk (below_step (by repeat (first | (with_reducible first | exact HB.out | apply below_alloc | apply pw_below_drewN | apply below_drew1 | refine below_set ?_ GE185.out) | exact HB.out)) hb); have n2_ := Aside0.mk (hbox); have n3_ := Aside0.mk ((by rw [hg]; exact (below_size (by repeat (first | (with_reducible first | exact HB.out | apply below_alloc | apply pw_below_drewN | apply below_drew1 | refine below_set ?_ GE185.out) | exact HB.out))) : w.heap.size ≤ gb186)); have n4_ := Aside0.mk ((by rw [hg]; exact (below_size (by repeat (first | (with_reducible first | exact HB.out | apply below_alloc | apply pw_below_drewN | apply below_drew1 | refine below_set ?_ GE185.out) | exact HB.out))) : w.heap.size ≤ gb186)); have n5_ := Aside0.mk ((by rw [hg]; exact Nat.ne_of_lt (blk_lt (g := gb185) (o := .cells #[.int .i64 a0_0, .int .i64 a0_1] 23 (0, 0)) (by (with_reducible repeat (first | apply blk_drewN | apply blk_drew | apply blk_alloc)); exact BK185.out)) : gb185 ≠ gb186)); have n6_ := Aside0.mk ((by rw [hg]; exact Nat.ne_of_gt (blk_lt (g := gb185) (o := .cells #[.int .i64 a0_0, .int .i64 a0_1] 23 (0, 0)) (by (with_reducible repeat (first | apply blk_drewN | apply blk_drew | apply blk_alloc)); exact BK185.out)) : gb186 ≠ gb185)); clear BK185; clear HB; have BK185 := n0_; have HB := n1_; have BK186 := n2_; have GW186 := n3_; have GE186 := n4_; have NB185_186 := n5_; have NB186_185 := n6_; clear n0_ n1_ n2_ n3_ n4_ n5_ n6_; clear hb hbox hg) | ((with_reducible refine gate_dst (N := 4) rfl ?_); refine box_event ?hg (N := 4) ?hd (cs := #[.int .i64 0, .int .i64 0]) (t := 23) ?hr ?_; (case hd => rfl); (case hg => rfl); (case hr => first | (go_simp; done) | (go_simp; rfl)); intro gb187 hg w58 hbox hb; have n0_ := Aside0.mk (blk_below (g := gb185) (o := .cells #[.int .i64 a0_0, .int .i64 a0_1] 23 (0, 0)) (by (with_reducible repeat (first | apply blk_drewN | apply blk_drew | apply blk_alloc)); exact BK185.out) hb); have n1_ := Aside0.mk (blk_below (g := gb186) (o := .cells #[.int .i64 a1_0, .int .i64 a1_1] 23 (0, 0)) (by (with_reducible repeat (first | apply blk_drewN | apply blk_drew | apply blk_alloc)); exact BK186.out) hb); have n2_ := Aside0.mk (below_step (by repeat (first | (with_reducible first | exact HB.out | apply below_alloc | apply pw_below_drewN | apply below_drew1 | refine below_set ?_ GE185.out | refine below_set ?_ GE186.out) | exact HB.out)) hb); have n3_ := Aside0.mk (hbox); have n4_ := Aside0.mk ((by rw [hg]; exact (below_size (by repeat (first | (with_reducible first | exact HB.out | apply below_alloc | apply pw_below_drewN | apply below_drew1 | refine below_set ?_ GE185.out | refine below_set ?_ GE186.out) | exact HB.out))) : w.heap.size ≤ gb187)); have n5_ := Aside0.mk ((by rw [hg]; exact (below_size (by repeat (first | (with_reducible first | exact HB.out | apply below_alloc | apply pw_below_drewN | apply below_drew1 | refine below_set ?_ GE185.out | refine below_set ?_ GE186.out) | exact HB.out))) : w.heap.size ≤ gb187)); have n6_ := Aside0.mk ((by rw [hg]; exact Nat.ne_of_lt (blk_lt (g := gb185) (o := .cells #[.int .i64 a0_0, .int .i64 a0_1] 23 (0, 0)) (by (with_reducible repeat (first | apply blk_drewN | apply blk_drew | apply blk_alloc)); exact BK185.out)) : gb185 ≠ gb187)); have n7_ := Aside0.mk ((by rw [hg]; exact Nat.ne_of_gt (blk_lt (g := gb185) (o := .cells #[.int .i64 a0_0, .int .i64 a0_1] 23 (0, 0)) (by (with_reducible repeat (first | apply blk_drewN | apply blk_drew | apply blk_alloc)); exact BK185.out)) : gb187 ≠ gb185)); have n8_ := Aside0.mk ((by rw [hg]; exact Nat.ne_of_lt (blk_lt (g := gb186) (o := .cells #[.int .i64 a1_0, .int .i64 a1_1] 23 (0, 0)) (by (with_reducible repeat (first | apply blk_drewN | apply blk_drew | apply blk_alloc)); exact BK186.out)) : gb186 ≠ gb187)); have n9_ := Aside0.mk ((by rw [hg]; exact Nat.ne_of_gt (blk_lt (g := gb186) (o := .cells #[.int .i64 a1_0, .int .i64 a1_1] 23 (0, 0)) (by (with_reducible repeat (first | apply blk_drewN | apply blk_drew | apply blk_alloc)); exact BK186.out)) : gb187 ≠ gb186)); clear BK185; clear BK186; clear HB; have BK185 := n0_; have BK186 := n1_; have HB := n2_; have BK187 := n3_; have GW187 := n4_; have GE187 := n5_; have NB185_187 := n6_; have NB187_185 := n7_; have NB186_187 := n8_; have NB187_186 := n9_; clear n0_ n1_ n2_ n3_ n4_ n5_ n6_ n7_ n8_ n9_; clear hb hbox hg) | ((with_reducible refine gate_dst (N := 5) rfl ?_); refine box_event ?hg (N := 5) ?hd (cs := #[.int .i64 0, .int .i64 0]) (t := 23) ?hr ?_; (case hd => rfl); (case hg => rfl); (case hr => first | (go_simp; done) | (go_simp; rfl)); intro gb188 hg w59 hbox hb; have n0_ := Aside0.mk (blk_below (g := gb185) (o := .cells #[.int .i64 a0_0, .int .i64 a0_1] 23 (0, 0)) (by (with_reducible repeat (first | apply blk_drewN | apply blk_drew | apply blk_alloc)); exact BK185.out) hb); have n1_ := Aside0.mk (blk_below (g := gb186) (o := .cells #[.int .i64 a1_0, .int .i64 a1_1] 23 (0, 0)) (by (with_reducible repeat (first | apply blk_drewN | apply blk_drew | apply blk_alloc)); exact BK186.out) hb); have n2_ := Aside0.mk (blk_below (g := gb187) (o := .cells #[.int .i64 0, .int .i64 0] 23 (0, 0)) (by (with_reducible repeat (first | apply blk_drewN | apply blk_drew | apply blk_alloc)); exact BK187.out) hb); have n3_ := Aside0.mk (below_step (by repeat (first | (with_reducible first | exact HB.out | apply below_alloc | apply pw_below_drewN | apply below_drew1 | refine below_set ?_ GE185.out | refine below_set ?_ GE186.out | refine below_set ?_ GE187.out) | exact HB.out)) hb); have n4_ := Aside0.mk (hbox); have n5_ := Aside0.mk ((by rw [hg]; exact (below_size (by repeat (first | (with_reducible first | exact HB.out | apply below_alloc | apply pw_below_drewN | apply below_drew1 | refine below_set ?_ GE185.out | refine below_set ?_ GE186.out | refine below_set ?_ GE187.out) | exact HB.out))) : w.heap.size ≤ gb188)); have n6_ := Aside0.mk ((by rw [hg]; exact (below_size (by repeat (first | (with_reducible first | exact HB.out | apply below_alloc | apply pw_below_drewN | apply below_drew1 | refine below_set ?_ GE185.out | refine below_set ?_ GE186.out | refine below_set ?_ GE187.out) | exact HB.out))) : w.heap.size ≤ gb188)); have n7_ := Aside0.mk ((by rw [hg]; exact Nat.ne_of_lt (blk_lt (g := gb185) (o := .cells #[.int .i64 a0_0, .int .i64 a0_1] 23 (0, 0)) (by (with_reducible repeat (first | apply blk_drewN | apply blk_drew | apply blk_alloc)); exact BK185.out)) : gb185 ≠ gb188)); have n8_ := Aside0.mk ((by rw [hg]; exact Nat.ne_of_gt (blk_lt (g := gb185) (o := .cells #[.int .i64 a0_0, .int .i64 a0_1] 23 (0, 0)) (by (with_reducible repeat (first | apply blk_drewN | apply blk_drew | apply blk_alloc)); exact BK185.out)) : gb188 ≠ gb185)); have n9_ := Aside0.mk ((by rw [hg]; exact Nat.ne_of_lt (blk_lt (g := gb186) (o := .cells #[.int .i64 a1_0, .int .i64 a1_1] 23 (0, 0)) (by (with_reducible repeat (first | apply blk_drewN | apply blk_drew | apply blk_alloc)); exact BK186.out)) : gb186 ≠ gb188)); have n10_ := Aside0.mk ((by rw [hg]; exact Nat.ne_of_gt (blk_lt (g := gb186) (o := .cells #[.int .i64 a1_0, .int .i64 a1_1] 23 (0, 0)) (by (with_reducible repeat (first | apply blk_drewN | apply blk_drew | apply blk_alloc)); exact BK186.out)) : gb188 ≠ gb186)); have n11_ := Aside0.mk ((by rw [hg]; exact Nat.ne_of_lt (blk_lt (g := gb187) (o := .cells #[.int .i64 0, .int .i64 0] 23 (0, 0)) (by (with_reducible repeat (first | apply blk_drewN | apply blk_drew | apply blk_alloc)); exact BK187.out)) : gb187 ≠ gb188)); have n12_ := Aside0.mk ((by rw [hg]; exact Nat.ne_of_gt (blk_lt (g := gb187) (o := .cells #[.int .i64 0, .int .i64 0] 23 (0, 0)) (by (with_reducible repeat (first | apply blk_drewN | apply blk_drew | apply blk_alloc)); exact BK187.out)) : gb188 ≠ gb187)); clear BK185; clear BK186; clear BK187; clear HB; have BK185 := n0_; have BK186 := n1_; have BK187 := n2_; have HB := n3_; have BK188 := n4_; have GW188 := n5_; have GE188 := n6_; have NB185_188 := n7_; have NB188_185 := n8_; have NB186_188 := n9_; have NB188_186 := n10_; have NB187_188 := n11_; have NB188_187 := n12_; clear n0_ n1_ n2_ n3_ n4_ n5_ n6_ n7_ n8_ n9_ n10_ n11_ n12_; clear hb hbox hg))
   have n0_ := Aside0.mk (blk_drew BK185.out)
   have n1_ := Aside0.mk (blk_drew BK186.out)
   have n2_ := Aside0.mk (blk_drew BK187.out)
   have n3_ := Aside0.mk (blk_drew BK188.out)
   have n4_ := Aside0.mk (below_drew1 HB.out)
   clear BK185
   clear BK186
   clear BK187
   clear BK188
   clear HB
   have BK185 := n0_
   have BK186 := n1_
   have BK187 := n2_
   have BK188 := n3_
   have HB := n4_
   clear n0_ n1_ n2_ n3_ n4_
   refine start_ (n := 9) (S := fun w' => w'.cell? ⟨gb186, 0, none⟩ = some (.int .i64 a1_0) ∧ w'.cell? ⟨gb186, 1, none⟩ = some (.int .i64 a1_1)) (ds := []) #[false, false, false, false, false, false, false, false, false] (by kernel_rfl) rfl rfl ⟨(blk_cell BK186.out 0).trans rfl, (blk_cell BK186.out 1).trans rfl⟩ (fun hHeld => ?_); refine with_tabW perm_parts.tab1 perm_parts.bits1 (fun HT_ HW_ => ?_)
   generalize w59.drew = w60 at BK185 BK186 BK187 BK188 HB hHeld ⊢
   refine take_ (i := 1) (N := some 13) (v := ?_) (a' := ?_) #[false, true, false, false, false, false, false, false, false] rfl rfl (take_ofW HT_.out HW_.out (by kernel_rfl)) (fun _ _ _ h => h) (Or.inl ⟨by rfl, ?_⟩) hHeld ?_ ?_
   rotate_left
   ·rintro w' ⟨s0, s1⟩
    go_simp
    with_reducible rfl
   rotate_left
   ·simp only [Act.put, List.setIfInBounds_toArray, List.set_cons_zero, List.set_cons_succ, i64_w, i32_w]
    rfl
   refine join_ (σ := Nat) 2 #[true, true, true, true, true, true, true, false, false] (fun s_ => [(12, .agg #[.int .i64 t189, .int .i64 t190]), (14, .tuple #[.agg #[.int .i64 t191, .int .i64 t192], .int .i64 t193]), (7, .pointer (some ⟨s_, 0, none⟩)), (11, .tuple #[.agg #[.int .i64 t191, .int .i64 t192], .int .i64 t193]), (15, .agg #[.int .i64 t191, .int .i64 t192]), (16, .int .i64 t193)]) (fun s_ w' => (w'.cell? ⟨gb186, 0, none⟩ = some (.int .i64 a1_0) ∧ w'.cell? ⟨gb186, 1, none⟩ = some (.int .i64 a1_1)) ∧ (w'.heap[gb185]? = some (.cells #[.int .i64 a0_0, .int .i64 a0_1] 23 (0, 0))) ∧ (w'.heap[gb186]? = some (.cells #[.int .i64 a1_0, .int .i64 a1_1] 23 (0, 0))) ∧ (w'.heap[gb187]? = some (.cells #[.int .i64 0, .int .i64 0] 23 (0, 0))) ∧ (w'.heap[gb188]? = some (.cells #[.int .i64 0, .int .i64 0] 23 (0, 0))) ∧ (w'.heap[s_]? = some (.cells #[.int .i64 0, .int .i64 0] 23 (0, 0))) ∧ (w.heap.size ≤ s_) ∧ (w.heap.size ≤ s_) ∧ (gb185 ≠ s_) ∧ (s_ ≠ gb185) ∧ (gb186 ≠ s_) ∧ (s_ ≠ gb186) ∧ (gb187 ≠ s_) ∧ (s_ ≠ gb187) ∧ (gb188 ≠ s_) ∧ (s_ ≠ gb188) ∧ (Below w.heap.size w w')) ?_ ?_
   rotate_left
   ·intro hCont
    refine two_ (i := 0) (j := 6) (Ni := some 12) (Nj := some 7) #[true, true, false, false, false, false, false, false, false] #[false, true, false, false, false, false, true, false, false] rfl rfl rfl rfl (two_of HT_.out (by kernel_rfl)) (by decide) (by decide) (fun K hK => ?_) (fun K hK => ?_)
    ·skip
     refine goes_ Try.func37 (by kernel_rfl) rfl #[] (by rfl) rfl rfl (by (try simp only [List.map_toArray, List.map_cons, List.map_nil]); first | done | rfl | (simp only [List.length_drop, List.length_take]; rfl)) ?_
     with_reducible refine (perm_one.calls  t189 t190 _ A3.out).mono ?_
     rintro e w61 ⟨rfl, hb⟩
     refine ⟨_, rfl, ?_⟩
     have n0_ := Aside0.mk (blk_below (g := gb185) (o := .cells #[.int .i64 a0_0, .int .i64 a0_1] 23 (0, 0)) (by (with_reducible repeat (first | apply blk_drewN | apply blk_drew | apply blk_alloc)); exact BK185.out) hb)
     have n1_ := Aside0.mk (blk_below (g := gb186) (o := .cells #[.int .i64 a1_0, .int .i64 a1_1] 23 (0, 0)) (by (with_reducible repeat (first | apply blk_drewN | apply blk_drew | apply blk_alloc)); exact BK186.out) hb)
     have n2_ := Aside0.mk (blk_below (g := gb187) (o := .cells #[.int .i64 0, .int .i64 0] 23 (0, 0)) (by (with_reducible repeat (first | apply blk_drewN | apply blk_drew | apply blk_alloc)); exact BK187.out) hb)
     have n3_ := Aside0.mk (blk_below (g := gb188) (o := .cells #[.int .i64 0, .int .i64 0] 23 (0, 0)) (by (with_reducible repeat (first | apply blk_drewN | apply blk_drew | apply blk_alloc)); exact BK188.out) hb)
     have n4_ := Aside0.mk (below_step (by repeat (first | (with_reducible first | exact HB.out | apply below_alloc | apply pw_below_drewN | apply below_drew1 | refine below_set ?_ GE185.out | refine below_set ?_ GE186.out | refine below_set ?_ GE187.out | refine below_set ?_ GE188.out) | exact HB.out)) hb)
     clear BK185
     clear BK186
     clear BK187
     clear BK188
     clear HB
     have BK185 := n0_
     have BK186 := n1_
     have BK187 := n2_
     have BK188 := n3_
     have HB := n4_
     clear n0_ n1_ n2_ n3_ n4_
     (try clear hb)
     (try clear hb2)
     (try clear hk)
     (try clear hi)
     refine hK.out _ _ ⟨(blk_cell BK186.out 0).trans rfl, (blk_cell BK186.out 1).trans rfl⟩ (fun hHeld => ?_)
     clear hK K
     refine norm_ (a' := ?_) ?_ ?_
     rotate_left
     ·show Act.put _ (some 12) _ = _
      simp only [Act.put, List.setIfInBounds_toArray, List.set_cons_zero, List.set_cons_succ, i64_w, i32_w]
      rfl
     refine two_ (i := 2) (j := 6) (Ni := some 14) (Nj := some 7) #[true, true, true, false, false, false, false, false, false] #[true, true, false, false, false, false, true, false, false] rfl rfl rfl rfl (two_of HT_.out (by kernel_rfl)) (by decide) (by decide) (fun K hK => ?_) (fun K hK => ?_)
     ·skip
      refine goes_ Try.func18 (by kernel_rfl) rfl #[.agg #[.int .i64 t189, .int .i64 t190], .agg #[.int .i64 a1_0, .int .i64 a1_1]] (by rfl) rfl rfl (by (try simp only [List.map_toArray, List.map_cons, List.map_nil]); first | done | rfl | (simp only [List.length_drop, List.length_take]; rfl)) ?_
      with_reducible refine (rat_Sub.calls k t189 t190 a1_0 a1_1 t191 t192 t193 _ A4.out).mono ?_
      rintro e w62 ⟨rfl, hb⟩
      refine ⟨_, rfl, ?_⟩
      have n0_ := Aside0.mk (blk_below (g := gb185) (o := .cells #[.int .i64 a0_0, .int .i64 a0_1] 23 (0, 0)) (by (with_reducible repeat (first | apply blk_drewN | apply blk_drew | apply blk_alloc)); exact BK185.out) hb)
      have n1_ := Aside0.mk (blk_below (g := gb186) (o := .cells #[.int .i64 a1_0, .int .i64 a1_1] 23 (0, 0)) (by (with_reducible repeat (first | apply blk_drewN | apply blk_drew | apply blk_alloc)); exact BK186.out) hb)
      have n2_ := Aside0.mk (blk_below (g := gb187) (o := .cells #[.int .i64 0, .int .i64 0] 23 (0, 0)) (by (with_reducible repeat (first | apply blk_drewN | apply blk_drew | apply blk_alloc)); exact BK187.out) hb)
      have n3_ := Aside0.mk (blk_below (g := gb188) (o := .cells #[.int .i64 0, .int .i64 0] 23 (0, 0)) (by (with_reducible repeat (first | apply blk_drewN | apply blk_drew | apply blk_alloc)); exact BK188.out) hb)
      have n4_ := Aside0.mk (below_step (by repeat (first | (with_reducible first | exact HB.out | apply below_alloc | apply pw_below_drewN | apply below_drew1 | refine below_set ?_ GE185.out | refine below_set ?_ GE186.out | refine below_set ?_ GE187.out | refine below_set ?_ GE188.out) | exact HB.out)) hb)
      clear BK185
      clear BK186
      clear BK187
      clear BK188
      clear HB
      have BK185 := n0_
      have BK186 := n1_
      have BK187 := n2_
      have BK188 := n3_
      have HB := n4_
      clear n0_ n1_ n2_ n3_ n4_
      (try clear hb)
      (try clear hb2)
      (try clear hk)
      (try clear hi)
      refine hK.out _ _ ⟨(blk_cell BK186.out 0).trans rfl, (blk_cell BK186.out 1).trans rfl⟩ (fun hHeld => ?_)
      clear hK K
      refine norm_ (a' := ?_) ?_ ?_
      rotate_left
      ·show Act.put _ (some 14) _ = _
       simp only [Act.put, List.setIfInBounds_toArray, List.set_cons_zero, List.set_cons_succ, i64_w, i32_w]
       rfl
      refine pure_ (i := 3) (N := some 11) (v := ?_) (a' := ?_) #[true, true, true, true, false, false, false, false, false] rfl rfl (any_of HT_.out (by kernel_rfl)) (fun _ _ _ h => h) (Or.inl ⟨by rfl, ?_⟩) ?_ ?_
      rotate_left
      ·intro w'
       go_simp
       with_reducible rfl
      rotate_left
      ·simp only [Act.put, List.setIfInBounds_toArray, List.set_cons_zero, List.set_cons_succ, i64_w, i32_w]
       rfl
      refine pure_ (i := 4) (N := some 15) (v := ?_) (a' := ?_) #[true, true, true, true, true, false, false, false, false] rfl rfl (any_of HT_.out (by kernel_rfl)) (fun _ _ _ h => h) (Or.inl ⟨by rfl, ?_⟩) ?_ ?_
      rotate_left
      ·intro w'
       go_simp
       with_reducible rfl
      rotate_left
      ·simp only [Act.put, List.setIfInBounds_toArray, List.set_cons_zero, List.set_cons_succ, i64_w, i32_w]
       rfl
      refine pure_ (i := 5) (N := some 16) (v := ?_) (a' := ?_) #[true, true, true, true, true, true, false, false, false] rfl rfl (any_of HT_.out (by kernel_rfl)) (fun _ _ _ h => h) (Or.inl ⟨by rfl, ?_⟩) ?_ ?_
      rotate_left
      ·intro w'
       go_simp
       with_reducible rfl
      rotate_left
      ·simp only [Act.put, List.setIfInBounds_toArray, List.set_cons_zero, List.set_cons_succ, i64_w, i32_w]
       rfl
      refine one_ (i := 6) (N := some 7) #[true, true, true, true, true, true, true, false, false] rfl rfl (one_of HT_.out (by kernel_rfl)) (by decide) (fun K hK => ?_)
      refine box_step ?hg (N := 7) ?hd (cs := #[.int .i64 0, .int .i64 0]) (t := 23) ?hr ?_; (case hd => rfl); (case hg => rfl); (case hr => first | (go_simp; done) | (go_simp; rfl))
      intro gb194 hg w63 hbox hb
      have n0_ := Aside0.mk (blk_below (g := gb185) (o := .cells #[.int .i64 a0_0, .int .i64 a0_1] 23 (0, 0)) (by (with_reducible repeat (first | apply blk_drewN | apply blk_drew | apply blk_alloc)); exact BK185.out) hb)
      have n1_ := Aside0.mk (blk_below (g := gb186) (o := .cells #[.int .i64 a1_0, .int .i64 a1_1] 23 (0, 0)) (by (with_reducible repeat (first | apply blk_drewN | apply blk_drew | apply blk_alloc)); exact BK186.out) hb)
      have n2_ := Aside0.mk (blk_below (g := gb187) (o := .cells #[.int .i64 0, .int .i64 0] 23 (0, 0)) (by (with_reducible repeat (first | apply blk_drewN | apply blk_drew | apply blk_alloc)); exact BK187.out) hb)
      have n3_ := Aside0.mk (blk_below (g := gb188) (o := .cells #[.int .i64 0, .int .i64 0] 23 (0, 0)) (by (with_reducible repeat (first | apply blk_drewN | apply blk_drew | apply blk_alloc)); exact BK188.out) hb)
      have n4_ := Aside0.mk (below_step (by repeat (first | (with_reducible first | exact HB.out | apply below_alloc | apply pw_below_drewN | apply below_drew1 | refine below_set ?_ GE185.out | refine below_set ?_ GE186.out | refine below_set ?_ GE187.out | refine below_set ?_ GE188.out) | exact HB.out)) hb)
      have n5_ := Aside0.mk (hbox)
      have n6_ := Aside0.mk ((by rw [hg]; exact (below_size (by repeat (first | (with_reducible first | exact HB.out | apply below_alloc | apply pw_below_drewN | apply below_drew1 | refine below_set ?_ GE185.out | refine below_set ?_ GE186.out | refine below_set ?_ GE187.out | refine below_set ?_ GE188.out) | exact HB.out))) : w.heap.size ≤ gb194))
      have n7_ := Aside0.mk ((by rw [hg]; exact (below_size (by repeat (first | (with_reducible first | exact HB.out | apply below_alloc | apply pw_below_drewN | apply below_drew1 | refine below_set ?_ GE185.out | refine below_set ?_ GE186.out | refine below_set ?_ GE187.out | refine below_set ?_ GE188.out) | exact HB.out))) : w.heap.size ≤ gb194))
      have n8_ := Aside0.mk ((by rw [hg]; exact Nat.ne_of_lt (blk_lt (g := gb185) (o := .cells #[.int .i64 a0_0, .int .i64 a0_1] 23 (0, 0)) (by (with_reducible repeat (first | apply blk_drewN | apply blk_drew | apply blk_alloc)); exact BK185.out)) : gb185 ≠ gb194))
      have n9_ := Aside0.mk ((by rw [hg]; exact Nat.ne_of_gt (blk_lt (g := gb185) (o := .cells #[.int .i64 a0_0, .int .i64 a0_1] 23 (0, 0)) (by (with_reducible repeat (first | apply blk_drewN | apply blk_drew | apply blk_alloc)); exact BK185.out)) : gb194 ≠ gb185))
      have n10_ := Aside0.mk ((by rw [hg]; exact Nat.ne_of_lt (blk_lt (g := gb186) (o := .cells #[.int .i64 a1_0, .int .i64 a1_1] 23 (0, 0)) (by (with_reducible repeat (first | apply blk_drewN | apply blk_drew | apply blk_alloc)); exact BK186.out)) : gb186 ≠ gb194))
      have n11_ := Aside0.mk ((by rw [hg]; exact Nat.ne_of_gt (blk_lt (g := gb186) (o := .cells #[.int .i64 a1_0, .int .i64 a1_1] 23 (0, 0)) (by (with_reducible repeat (first | apply blk_drewN | apply blk_drew | apply blk_alloc)); exact BK186.out)) : gb194 ≠ gb186))
      have n12_ := Aside0.mk ((by rw [hg]; exact Nat.ne_of_lt (blk_lt (g := gb187) (o := .cells #[.int .i64 0, .int .i64 0] 23 (0, 0)) (by (with_reducible repeat (first | apply blk_drewN | apply blk_drew | apply blk_alloc)); exact BK187.out)) : gb187 ≠ gb194))
      have n13_ := Aside0.mk ((by rw [hg]; exact Nat.ne_of_gt (blk_lt (g := gb187) (o := .cells #[.int .i64 0, .int .i64 0] 23 (0, 0)) (by (with_reducible repeat (first | apply blk_drewN | apply blk_drew | apply blk_alloc)); exact BK187.out)) : gb194 ≠ gb187))
      have n14_ := Aside0.mk ((by rw [hg]; exact Nat.ne_of_lt (blk_lt (g := gb188) (o := .cells #[.int .i64 0, .int .i64 0] 23 (0, 0)) (by (with_reducible repeat (first | apply blk_drewN | apply blk_drew | apply blk_alloc)); exact BK188.out)) : gb188 ≠ gb194))
      have n15_ := Aside0.mk ((by rw [hg]; exact Nat.ne_of_gt (blk_lt (g := gb188) (o := .cells #[.int .i64 0, .int .i64 0] 23 (0, 0)) (by (with_reducible repeat (first | apply blk_drewN | apply blk_drew | apply blk_alloc)); exact BK188.out)) : gb194 ≠ gb188))
      clear BK185
      clear BK186
      clear BK187
      clear BK188
      clear HB
      have BK185 := n0_
      have BK186 := n1_
      have BK187 := n2_
      have BK188 := n3_
      have HB := n4_
      have BK194 := n5_
      have GW194 := n6_
      have GE194 := n7_
      have NB185_194 := n8_
      have NB194_185 := n9_
      have NB186_194 := n10_
      have NB194_186 := n11_
      have NB187_194 := n12_
      have NB194_187 := n13_
      have NB188_194 := n14_
      have NB194_188 := n15_
      clear n0_ n1_ n2_ n3_ n4_ n5_ n6_ n7_ n8_ n9_ n10_ n11_ n12_ n13_ n14_ n15_
      clear hb hbox hg
      refine hK.out _ _ ⟨(blk_cell BK186.out 0).trans rfl, (blk_cell BK186.out 1).trans rfl⟩ (fun hHeld => ?_)
      clear hK K
      refine norm_ (a' := ?_) ?_ ?_
      rotate_left
      ·show Act.put _ (some 7) _ = _
       simp only [Act.put, List.setIfInBounds_toArray, List.set_cons_zero, List.set_cons_succ, i64_w, i32_w]
       rfl
      exact norm_ (by simp only [putAll, Act.put, List.setIfInBounds_toArray, List.set_cons_zero, List.set_cons_succ]) (hCont (gb194) _ ⟨hHeld, (by (with_reducible repeat (first | apply blk_drewN | apply blk_drew | apply blk_alloc)); exact BK185.out), (by (with_reducible repeat (first | apply blk_drewN | apply blk_drew | apply blk_alloc)); exact BK186.out), (by (with_reducible repeat (first | apply blk_drewN | apply blk_drew | apply blk_alloc)); exact BK187.out), (by (with_reducible repeat (first | apply blk_drewN | apply blk_drew | apply blk_alloc)); exact BK188.out), (by (with_reducible repeat (first | apply blk_drewN | apply blk_drew | apply blk_alloc)); exact BK194.out), GW194.out, GE194.out, NB185_194.out, NB194_185.out, NB186_194.out, NB194_186.out, NB187_194.out, NB194_187.out, NB188_194.out, NB194_188.out, (by repeat (first | (with_reducible first | exact HB.out | apply below_alloc | apply pw_below_drewN | apply below_drew1 | refine below_set ?_ GE185.out | refine below_set ?_ GE186.out | refine below_set ?_ GE187.out | refine below_set ?_ GE188.out | refine below_set ?_ GE194.out) | exact HB.out))⟩)
     ·skip
      refine box_step ?hg (N := 7) ?hd (cs := #[.int .i64 0, .int .i64 0]) (t := 23) ?hr ?_; (case hd => rfl); (case hg => rfl); (case hr => first | (go_simp; done) | (go_simp; rfl))
      intro gb194 hg w62 hbox hb
      have n0_ := Aside0.mk (blk_below (g := gb185) (o := .cells #[.int .i64 a0_0, .int .i64 a0_1] 23 (0, 0)) (by (with_reducible repeat (first | apply blk_drewN | apply blk_drew | apply blk_alloc)); exact BK185.out) hb)
      have n1_ := Aside0.mk (blk_below (g := gb186) (o := .cells #[.int .i64 a1_0, .int .i64 a1_1] 23 (0, 0)) (by (with_reducible repeat (first | apply blk_drewN | apply blk_drew | apply blk_alloc)); exact BK186.out) hb)
      have n2_ := Aside0.mk (blk_below (g := gb187) (o := .cells #[.int .i64 0, .int .i64 0] 23 (0, 0)) (by (with_reducible repeat (first | apply blk_drewN | apply blk_drew | apply blk_alloc)); exact BK187.out) hb)
      have n3_ := Aside0.mk (blk_below (g := gb188) (o := .cells #[.int .i64 0, .int .i64 0] 23 (0, 0)) (by (with_reducible repeat (first | apply blk_drewN | apply blk_drew | apply blk_alloc)); exact BK188.out) hb)
      have n4_ := Aside0.mk (below_step (by repeat (first | (with_reducible first | exact HB.out | apply below_alloc | apply pw_below_drewN | apply below_drew1 | refine below_set ?_ GE185.out | refine below_set ?_ GE186.out | refine below_set ?_ GE187.out | refine below_set ?_ GE188.out) | exact HB.out)) hb)
      have n5_ := Aside0.mk (hbox)
      have n6_ := Aside0.mk ((by rw [hg]; exact (below_size (by repeat (first | (with_reducible first | exact HB.out | apply below_alloc | apply pw_below_drewN | apply below_drew1 | refine below_set ?_ GE185.out | refine below_set ?_ GE186.out | refine below_set ?_ GE187.out | refine below_set ?_ GE188.out) | exact HB.out))) : w.heap.size ≤ gb194))
      have n7_ := Aside0.mk ((by rw [hg]; exact (below_size (by repeat (first | (with_reducible first | exact HB.out | apply below_alloc | apply pw_below_drewN | apply below_drew1 | refine below_set ?_ GE185.out | refine below_set ?_ GE186.out | refine below_set ?_ GE187.out | refine below_set ?_ GE188.out) | exact HB.out))) : w.heap.size ≤ gb194))
      have n8_ := Aside0.mk ((by rw [hg]; exact Nat.ne_of_lt (blk_lt (g := gb185) (o := .cells #[.int .i64 a0_0, .int .i64 a0_1] 23 (0, 0)) (by (with_reducible repeat (first | apply blk_drewN | apply blk_drew | apply blk_alloc)); exact BK185.out)) : gb185 ≠ gb194))
      have n9_ := Aside0.mk ((by rw [hg]; exact Nat.ne_of_gt (blk_lt (g := gb185) (o := .cells #[.int .i64 a0_0, .int .i64 a0_1] 23 (0, 0)) (by (with_reducible repeat (first | apply blk_drewN | apply blk_drew | apply blk_alloc)); exact BK185.out)) : gb194 ≠ gb185))
      have n10_ := Aside0.mk ((by rw [hg]; exact Nat.ne_of_lt (blk_lt (g := gb186) (o := .cells #[.int .i64 a1_0, .int .i64 a1_1] 23 (0, 0)) (by (with_reducible repeat (first | apply blk_drewN | apply blk_drew | apply blk_alloc)); exact BK186.out)) : gb186 ≠ gb194))
      have n11_ := Aside0.mk ((by rw [hg]; exact Nat.ne_of_gt (blk_lt (g := gb186) (o := .cells #[.int .i64 a1_0, .int .i64 a1_1] 23 (0, 0)) (by (with_reducible repeat (first | apply blk_drewN | apply blk_drew | apply blk_alloc)); exact BK186.out)) : gb194 ≠ gb186))
      have n12_ := Aside0.mk ((by rw [hg]; exact Nat.ne_of_lt (blk_lt (g := gb187) (o := .cells #[.int .i64 0, .int .i64 0] 23 (0, 0)) (by (with_reducible repeat (first | apply blk_drewN | apply blk_drew | apply blk_alloc)); exact BK187.out)) : gb187 ≠ gb194))
      have n13_ := Aside0.mk ((by rw [hg]; exact Nat.ne_of_gt (blk_lt (g := gb187) (o := .cells #[.int .i64 0, .int .i64 0] 23 (0, 0)) (by (with_reducible repeat (first | apply blk_drewN | apply blk_drew | apply blk_alloc)); exact BK187.out)) : gb194 ≠ gb187))
      have n14_ := Aside0.mk ((by rw [hg]; exact Nat.ne_of_lt (blk_lt (g := gb188) (o := .cells #[.int .i64 0, .int .i64 0] 23 (0, 0)) (by (with_reducible repeat (first | apply blk_drewN | apply blk_drew | apply blk_alloc)); exact BK188.out)) : gb188 ≠ gb194))
      have n15_ := Aside0.mk ((by rw [hg]; exact Nat.ne_of_gt (blk_lt (g := gb188) (o := .cells #[.int .i64 0, .int .i64 0] 23 (0, 0)) (by (with_reducible repeat (first | apply blk_drewN | apply blk_drew | apply blk_alloc)); exact BK188.out)) : gb194 ≠ gb188))
      clear BK185
      clear BK186
      clear BK187
      clear BK188
      clear HB
      have BK185 := n0_
      have BK186 := n1_
      have BK187 := n2_
      have BK188 := n3_
      have HB := n4_
      have BK194 := n5_
      have GW194 := n6_
      have GE194 := n7_
      have NB185_194 := n8_
      have NB194_185 := n9_
      have NB186_194 := n10_
      have NB194_186 := n11_
      have NB187_194 := n12_
      have NB194_187 := n13_
      have NB188_194 := n14_
      have NB194_188 := n15_
      clear n0_ n1_ n2_ n3_ n4_ n5_ n6_ n7_ n8_ n9_ n10_ n11_ n12_ n13_ n14_ n15_
      clear hb hbox hg
      refine hK.out _ _ ⟨(blk_cell BK186.out 0).trans rfl, (blk_cell BK186.out 1).trans rfl⟩ (fun hHeld => ?_)
      clear hK K
      refine norm_ (a' := ?_) ?_ ?_
      rotate_left
      ·show Act.put _ (some 7) _ = _
       simp only [Act.put, List.setIfInBounds_toArray, List.set_cons_zero, List.set_cons_succ, i64_w, i32_w]
       rfl
      refine one_ (i := 2) (N := some 14) #[true, true, true, false, false, false, true, false, false] rfl rfl (one_of HT_.out (by kernel_rfl)) (by decide) (fun K hK => ?_)
      refine goes_ Try.func18 (by kernel_rfl) rfl #[.agg #[.int .i64 t189, .int .i64 t190], .agg #[.int .i64 a1_0, .int .i64 a1_1]] (by rfl) rfl rfl (by (try simp only [List.map_toArray, List.map_cons, List.map_nil]); first | done | rfl | (simp only [List.length_drop, List.length_take]; rfl)) ?_
      with_reducible refine (rat_Sub.calls k t189 t190 a1_0 a1_1 t191 t192 t193 _ A4.out).mono ?_
      rintro e w63 ⟨rfl, hb⟩
      refine ⟨_, rfl, ?_⟩
      have n0_ := Aside0.mk (blk_below (g := gb185) (o := .cells #[.int .i64 a0_0, .int .i64 a0_1] 23 (0, 0)) (by (with_reducible repeat (first | apply blk_drewN | apply blk_drew | apply blk_alloc)); exact BK185.out) hb)
      have n1_ := Aside0.mk (blk_below (g := gb186) (o := .cells #[.int .i64 a1_0, .int .i64 a1_1] 23 (0, 0)) (by (with_reducible repeat (first | apply blk_drewN | apply blk_drew | apply blk_alloc)); exact BK186.out) hb)
      have n2_ := Aside0.mk (blk_below (g := gb187) (o := .cells #[.int .i64 0, .int .i64 0] 23 (0, 0)) (by (with_reducible repeat (first | apply blk_drewN | apply blk_drew | apply blk_alloc)); exact BK187.out) hb)
      have n3_ := Aside0.mk (blk_below (g := gb188) (o := .cells #[.int .i64 0, .int .i64 0] 23 (0, 0)) (by (with_reducible repeat (first | apply blk_drewN | apply blk_drew | apply blk_alloc)); exact BK188.out) hb)
      have n4_ := Aside0.mk (blk_below (g := gb194) (o := .cells #[.int .i64 0, .int .i64 0] 23 (0, 0)) (by (with_reducible repeat (first | apply blk_drewN | apply blk_drew | apply blk_alloc)); exact BK194.out) hb)
      have n5_ := Aside0.mk (below_step (by repeat (first | (with_reducible first | exact HB.out | apply below_alloc | apply pw_below_drewN | apply below_drew1 | refine below_set ?_ GE185.out | refine below_set ?_ GE186.out | refine below_set ?_ GE187.out | refine below_set ?_ GE188.out | refine below_set ?_ GE194.out) | exact HB.out)) hb)
      clear BK185
      clear BK186
      clear BK187
      clear BK188
      clear BK194
      clear HB
      have BK185 := n0_
      have BK186 := n1_
      have BK187 := n2_
      have BK188 := n3_
      have BK194 := n4_
      have HB := n5_
      clear n0_ n1_ n2_ n3_ n4_ n5_
      (try clear hb)
      (try clear hb2)
      (try clear hk)
      (try clear hi)
      refine hK.out _ _ ⟨(blk_cell BK186.out 0).trans rfl, (blk_cell BK186.out 1).trans rfl⟩ (fun hHeld => ?_)
      clear hK K
      refine norm_ (a' := ?_) ?_ ?_
      rotate_left
      ·show Act.put _ (some 14) _ = _
       simp only [Act.put, List.setIfInBounds_toArray, List.set_cons_zero, List.set_cons_succ, i64_w, i32_w]
       rfl
      refine pure_ (i := 3) (N := some 11) (v := ?_) (a' := ?_) #[true, true, true, true, false, false, true, false, false] rfl rfl (any_of HT_.out (by kernel_rfl)) (fun _ _ _ h => h) (Or.inl ⟨by rfl, ?_⟩) ?_ ?_
      rotate_left
      ·intro w'
       go_simp
       with_reducible rfl
      rotate_left
      ·simp only [Act.put, List.setIfInBounds_toArray, List.set_cons_zero, List.set_cons_succ, i64_w, i32_w]
       rfl
      refine pure_ (i := 4) (N := some 15) (v := ?_) (a' := ?_) #[true, true, true, true, true, false, true, false, false] rfl rfl (any_of HT_.out (by kernel_rfl)) (fun _ _ _ h => h) (Or.inl ⟨by rfl, ?_⟩) ?_ ?_
      rotate_left
      ·intro w'
       go_simp
       with_reducible rfl
      rotate_left
      ·simp only [Act.put, List.setIfInBounds_toArray, List.set_cons_zero, List.set_cons_succ, i64_w, i32_w]
       rfl
      refine pure_ (i := 5) (N := some 16) (v := ?_) (a' := ?_) #[true, true, true, true, true, true, true, false, false] rfl rfl (any_of HT_.out (by kernel_rfl)) (fun _ _ _ h => h) (Or.inl ⟨by rfl, ?_⟩) ?_ ?_
      rotate_left
      ·intro w'
       go_simp
       with_reducible rfl
      rotate_left
      ·simp only [Act.put, List.setIfInBounds_toArray, List.set_cons_zero, List.set_cons_succ, i64_w, i32_w]
       rfl
      exact norm_ (by simp only [putAll, Act.put, List.setIfInBounds_toArray, List.set_cons_zero, List.set_cons_succ]) (hCont (gb194) _ ⟨hHeld, (by (with_reducible repeat (first | apply blk_drewN | apply blk_drew | apply blk_alloc)); exact BK185.out), (by (with_reducible repeat (first | apply blk_drewN | apply blk_drew | apply blk_alloc)); exact BK186.out), (by (with_reducible repeat (first | apply blk_drewN | apply blk_drew | apply blk_alloc)); exact BK187.out), (by (with_reducible repeat (first | apply blk_drewN | apply blk_drew | apply blk_alloc)); exact BK188.out), (by (with_reducible repeat (first | apply blk_drewN | apply blk_drew | apply blk_alloc)); exact BK194.out), GW194.out, GE194.out, NB185_194.out, NB194_185.out, NB186_194.out, NB194_186.out, NB187_194.out, NB194_187.out, NB188_194.out, NB194_188.out, (by repeat (first | (with_reducible first | exact HB.out | apply below_alloc | apply pw_below_drewN | apply below_drew1 | refine below_set ?_ GE185.out | refine below_set ?_ GE186.out | refine below_set ?_ GE187.out | refine below_set ?_ GE188.out | refine below_set ?_ GE194.out) | exact HB.out))⟩)
    ·skip
     refine box_step ?hg (N := 7) ?hd (cs := #[.int .i64 0, .int .i64 0]) (t := 23) ?hr ?_; (case hd => rfl); (case hg => rfl); (case hr => first | (go_simp; done) | (go_simp; rfl))
     intro gb194 hg w61 hbox hb
     have n0_ := Aside0.mk (blk_below (g := gb185) (o := .cells #[.int .i64 a0_0, .int .i64 a0_1] 23 (0, 0)) (by (with_reducible repeat (first | apply blk_drewN | apply blk_drew | apply blk_alloc)); exact BK185.out) hb)
     have n1_ := Aside0.mk (blk_below (g := gb186) (o := .cells #[.int .i64 a1_0, .int .i64 a1_1] 23 (0, 0)) (by (with_reducible repeat (first | apply blk_drewN | apply blk_drew | apply blk_alloc)); exact BK186.out) hb)
     have n2_ := Aside0.mk (blk_below (g := gb187) (o := .cells #[.int .i64 0, .int .i64 0] 23 (0, 0)) (by (with_reducible repeat (first | apply blk_drewN | apply blk_drew | apply blk_alloc)); exact BK187.out) hb)
     have n3_ := Aside0.mk (blk_below (g := gb188) (o := .cells #[.int .i64 0, .int .i64 0] 23 (0, 0)) (by (with_reducible repeat (first | apply blk_drewN | apply blk_drew | apply blk_alloc)); exact BK188.out) hb)
     have n4_ := Aside0.mk (below_step (by repeat (first | (with_reducible first | exact HB.out | apply below_alloc | apply pw_below_drewN | apply below_drew1 | refine below_set ?_ GE185.out | refine below_set ?_ GE186.out | refine below_set ?_ GE187.out | refine below_set ?_ GE188.out) | exact HB.out)) hb)
     have n5_ := Aside0.mk (hbox)
     have n6_ := Aside0.mk ((by rw [hg]; exact (below_size (by repeat (first | (with_reducible first | exact HB.out | apply below_alloc | apply pw_below_drewN | apply below_drew1 | refine below_set ?_ GE185.out | refine below_set ?_ GE186.out | refine below_set ?_ GE187.out | refine below_set ?_ GE188.out) | exact HB.out))) : w.heap.size ≤ gb194))
     have n7_ := Aside0.mk ((by rw [hg]; exact (below_size (by repeat (first | (with_reducible first | exact HB.out | apply below_alloc | apply pw_below_drewN | apply below_drew1 | refine below_set ?_ GE185.out | refine below_set ?_ GE186.out | refine below_set ?_ GE187.out | refine below_set ?_ GE188.out) | exact HB.out))) : w.heap.size ≤ gb194))
     have n8_ := Aside0.mk ((by rw [hg]; exact Nat.ne_of_lt (blk_lt (g := gb185) (o := .cells #[.int .i64 a0_0, .int .i64 a0_1] 23 (0, 0)) (by (with_reducible repeat (first | apply blk_drewN | apply blk_drew | apply blk_alloc)); exact BK185.out)) : gb185 ≠ gb194))
     have n9_ := Aside0.mk ((by rw [hg]; exact Nat.ne_of_gt (blk_lt (g := gb185) (o := .cells #[.int .i64 a0_0, .int .i64 a0_1] 23 (0, 0)) (by (with_reducible repeat (first | apply blk_drewN | apply blk_drew | apply blk_alloc)); exact BK185.out)) : gb194 ≠ gb185))
     have n10_ := Aside0.mk ((by rw [hg]; exact Nat.ne_of_lt (blk_lt (g := gb186) (o := .cells #[.int .i64 a1_0, .int .i64 a1_1] 23 (0, 0)) (by (with_reducible repeat (first | apply blk_drewN | apply blk_drew | apply blk_alloc)); exact BK186.out)) : gb186 ≠ gb194))
     have n11_ := Aside0.mk ((by rw [hg]; exact Nat.ne_of_gt (blk_lt (g := gb186) (o := .cells #[.int .i64 a1_0, .int .i64 a1_1] 23 (0, 0)) (by (with_reducible repeat (first | apply blk_drewN | apply blk_drew | apply blk_alloc)); exact BK186.out)) : gb194 ≠ gb186))
     have n12_ := Aside0.mk ((by rw [hg]; exact Nat.ne_of_lt (blk_lt (g := gb187) (o := .cells #[.int .i64 0, .int .i64 0] 23 (0, 0)) (by (with_reducible repeat (first | apply blk_drewN | apply blk_drew | apply blk_alloc)); exact BK187.out)) : gb187 ≠ gb194))
     have n13_ := Aside0.mk ((by rw [hg]; exact Nat.ne_of_gt (blk_lt (g := gb187) (o := .cells #[.int .i64 0, .int .i64 0] 23 (0, 0)) (by (with_reducible repeat (first | apply blk_drewN | apply blk_drew | apply blk_alloc)); exact BK187.out)) : gb194 ≠ gb187))
     have n14_ := Aside0.mk ((by rw [hg]; exact Nat.ne_of_lt (blk_lt (g := gb188) (o := .cells #[.int .i64 0, .int .i64 0] 23 (0, 0)) (by (with_reducible repeat (first | apply blk_drewN | apply blk_drew | apply blk_alloc)); exact BK188.out)) : gb188 ≠ gb194))
     have n15_ := Aside0.mk ((by rw [hg]; exact Nat.ne_of_gt (blk_lt (g := gb188) (o := .cells #[.int .i64 0, .int .i64 0] 23 (0, 0)) (by (with_reducible repeat (first | apply blk_drewN | apply blk_drew | apply blk_alloc)); exact BK188.out)) : gb194 ≠ gb188))
     clear BK185
     clear BK186
     clear BK187
     clear BK188
     clear HB
     have BK185 := n0_
     have BK186 := n1_
     have BK187 := n2_
     have BK188 := n3_
     have HB := n4_
     have BK194 := n5_
     have GW194 := n6_
     have GE194 := n7_
     have NB185_194 := n8_
     have NB194_185 := n9_
     have NB186_194 := n10_
     have NB194_186 := n11_
     have NB187_194 := n12_
     have NB194_187 := n13_
     have NB188_194 := n14_
     have NB194_188 := n15_
     clear n0_ n1_ n2_ n3_ n4_ n5_ n6_ n7_ n8_ n9_ n10_ n11_ n12_ n13_ n14_ n15_
     clear hb hbox hg
     refine hK.out _ _ ⟨(blk_cell BK186.out 0).trans rfl, (blk_cell BK186.out 1).trans rfl⟩ (fun hHeld => ?_)
     clear hK K
     refine norm_ (a' := ?_) ?_ ?_
     rotate_left
     ·show Act.put _ (some 7) _ = _
      simp only [Act.put, List.setIfInBounds_toArray, List.set_cons_zero, List.set_cons_succ, i64_w, i32_w]
      rfl
     refine one_ (i := 0) (N := some 12) #[true, true, false, false, false, false, true, false, false] rfl rfl (one_of HT_.out (by kernel_rfl)) (by decide) (fun K hK => ?_)
     refine goes_ Try.func37 (by kernel_rfl) rfl #[] (by rfl) rfl rfl (by (try simp only [List.map_toArray, List.map_cons, List.map_nil]); first | done | rfl | (simp only [List.length_drop, List.length_take]; rfl)) ?_
     with_reducible refine (perm_one.calls  t189 t190 _ A3.out).mono ?_
     rintro e w62 ⟨rfl, hb⟩
     refine ⟨_, rfl, ?_⟩
     have n0_ := Aside0.mk (blk_below (g := gb185) (o := .cells #[.int .i64 a0_0, .int .i64 a0_1] 23 (0, 0)) (by (with_reducible repeat (first | apply blk_drewN | apply blk_drew | apply blk_alloc)); exact BK185.out) hb)
     have n1_ := Aside0.mk (blk_below (g := gb186) (o := .cells #[.int .i64 a1_0, .int .i64 a1_1] 23 (0, 0)) (by (with_reducible repeat (first | apply blk_drewN | apply blk_drew | apply blk_alloc)); exact BK186.out) hb)
     have n2_ := Aside0.mk (blk_below (g := gb187) (o := .cells #[.int .i64 0, .int .i64 0] 23 (0, 0)) (by (with_reducible repeat (first | apply blk_drewN | apply blk_drew | apply blk_alloc)); exact BK187.out) hb)
     have n3_ := Aside0.mk (blk_below (g := gb188) (o := .cells #[.int .i64 0, .int .i64 0] 23 (0, 0)) (by (with_reducible repeat (first | apply blk_drewN | apply blk_drew | apply blk_alloc)); exact BK188.out) hb)
     have n4_ := Aside0.mk (blk_below (g := gb194) (o := .cells #[.int .i64 0, .int .i64 0] 23 (0, 0)) (by (with_reducible repeat (first | apply blk_drewN | apply blk_drew | apply blk_alloc)); exact BK194.out) hb)
     have n5_ := Aside0.mk (below_step (by repeat (first | (with_reducible first | exact HB.out | apply below_alloc | apply pw_below_drewN | apply below_drew1 | refine below_set ?_ GE185.out | refine below_set ?_ GE186.out | refine below_set ?_ GE187.out | refine below_set ?_ GE188.out | refine below_set ?_ GE194.out) | exact HB.out)) hb)
     clear BK185
     clear BK186
     clear BK187
     clear BK188
     clear BK194
     clear HB
     have BK185 := n0_
     have BK186 := n1_
     have BK187 := n2_
     have BK188 := n3_
     have BK194 := n4_
     have HB := n5_
     clear n0_ n1_ n2_ n3_ n4_ n5_
     (try clear hb)
     (try clear hb2)
     (try clear hk)
     (try clear hi)
     refine hK.out _ _ ⟨(blk_cell BK186.out 0).trans rfl, (blk_cell BK186.out 1).trans rfl⟩ (fun hHeld => ?_)
     clear hK K
     refine norm_ (a' := ?_) ?_ ?_
     rotate_left
     ·show Act.put _ (some 12) _ = _
      simp only [Act.put, List.setIfInBounds_toArray, List.set_cons_zero, List.set_cons_succ, i64_w, i32_w]
      rfl
     refine one_ (i := 2) (N := some 14) #[true, true, true, false, false, false, true, false, false] rfl rfl (one_of HT_.out (by kernel_rfl)) (by decide) (fun K hK => ?_)
     refine goes_ Try.func18 (by kernel_rfl) rfl #[.agg #[.int .i64 t189, .int .i64 t190], .agg #[.int .i64 a1_0, .int .i64 a1_1]] (by rfl) rfl rfl (by (try simp only [List.map_toArray, List.map_cons, List.map_nil]); first | done | rfl | (simp only [List.length_drop, List.length_take]; rfl)) ?_
     with_reducible refine (rat_Sub.calls k t189 t190 a1_0 a1_1 t191 t192 t193 _ A4.out).mono ?_
     rintro e w63 ⟨rfl, hb⟩
     refine ⟨_, rfl, ?_⟩
     have n0_ := Aside0.mk (blk_below (g := gb185) (o := .cells #[.int .i64 a0_0, .int .i64 a0_1] 23 (0, 0)) (by (with_reducible repeat (first | apply blk_drewN | apply blk_drew | apply blk_alloc)); exact BK185.out) hb)
     have n1_ := Aside0.mk (blk_below (g := gb186) (o := .cells #[.int .i64 a1_0, .int .i64 a1_1] 23 (0, 0)) (by (with_reducible repeat (first | apply blk_drewN | apply blk_drew | apply blk_alloc)); exact BK186.out) hb)
     have n2_ := Aside0.mk (blk_below (g := gb187) (o := .cells #[.int .i64 0, .int .i64 0] 23 (0, 0)) (by (with_reducible repeat (first | apply blk_drewN | apply blk_drew | apply blk_alloc)); exact BK187.out) hb)
     have n3_ := Aside0.mk (blk_below (g := gb188) (o := .cells #[.int .i64 0, .int .i64 0] 23 (0, 0)) (by (with_reducible repeat (first | apply blk_drewN | apply blk_drew | apply blk_alloc)); exact BK188.out) hb)
     have n4_ := Aside0.mk (blk_below (g := gb194) (o := .cells #[.int .i64 0, .int .i64 0] 23 (0, 0)) (by (with_reducible repeat (first | apply blk_drewN | apply blk_drew | apply blk_alloc)); exact BK194.out) hb)
     have n5_ := Aside0.mk (below_step (by repeat (first | (with_reducible first | exact HB.out | apply below_alloc | apply pw_below_drewN | apply below_drew1 | refine below_set ?_ GE185.out | refine below_set ?_ GE186.out | refine below_set ?_ GE187.out | refine below_set ?_ GE188.out | refine below_set ?_ GE194.out) | exact HB.out)) hb)
     clear BK185
     clear BK186
     clear BK187
     clear BK188
     clear BK194
     clear HB
     have BK185 := n0_
     have BK186 := n1_
     have BK187 := n2_
     have BK188 := n3_
     have BK194 := n4_
     have HB := n5_
     clear n0_ n1_ n2_ n3_ n4_ n5_
     (try clear hb)
     (try clear hb2)
     (try clear hk)
     (try clear hi)
     refine hK.out _ _ ⟨(blk_cell BK186.out 0).trans rfl, (blk_cell BK186.out 1).trans rfl⟩ (fun hHeld => ?_)
     clear hK K
     refine norm_ (a' := ?_) ?_ ?_
     rotate_left
     ·show Act.put _ (some 14) _ = _
      simp only [Act.put, List.setIfInBounds_toArray, List.set_cons_zero, List.set_cons_succ, i64_w, i32_w]
      rfl
     refine pure_ (i := 3) (N := some 11) (v := ?_) (a' := ?_) #[true, true, true, true, false, false, true, false, false] rfl rfl (any_of HT_.out (by kernel_rfl)) (fun _ _ _ h => h) (Or.inl ⟨by rfl, ?_⟩) ?_ ?_
     rotate_left
     ·intro w'
      go_simp
      with_reducible rfl
     rotate_left
     ·simp only [Act.put, List.setIfInBounds_toArray, List.set_cons_zero, List.set_cons_succ, i64_w, i32_w]
      rfl
     refine pure_ (i := 4) (N := some 15) (v := ?_) (a' := ?_) #[true, true, true, true, true, false, true, false, false] rfl rfl (any_of HT_.out (by kernel_rfl)) (fun _ _ _ h => h) (Or.inl ⟨by rfl, ?_⟩) ?_ ?_
     rotate_left
     ·intro w'
      go_simp
      with_reducible rfl
     rotate_left
     ·simp only [Act.put, List.setIfInBounds_toArray, List.set_cons_zero, List.set_cons_succ, i64_w, i32_w]
      rfl
     refine pure_ (i := 5) (N := some 16) (v := ?_) (a' := ?_) #[true, true, true, true, true, true, true, false, false] rfl rfl (any_of HT_.out (by kernel_rfl)) (fun _ _ _ h => h) (Or.inl ⟨by rfl, ?_⟩) ?_ ?_
     rotate_left
     ·intro w'
      go_simp
      with_reducible rfl
     rotate_left
     ·simp only [Act.put, List.setIfInBounds_toArray, List.set_cons_zero, List.set_cons_succ, i64_w, i32_w]
      rfl
     exact norm_ (by simp only [putAll, Act.put, List.setIfInBounds_toArray, List.set_cons_zero, List.set_cons_succ]) (hCont (gb194) _ ⟨hHeld, (by (with_reducible repeat (first | apply blk_drewN | apply blk_drew | apply blk_alloc)); exact BK185.out), (by (with_reducible repeat (first | apply blk_drewN | apply blk_drew | apply blk_alloc)); exact BK186.out), (by (with_reducible repeat (first | apply blk_drewN | apply blk_drew | apply blk_alloc)); exact BK187.out), (by (with_reducible repeat (first | apply blk_drewN | apply blk_drew | apply blk_alloc)); exact BK188.out), (by (with_reducible repeat (first | apply blk_drewN | apply blk_drew | apply blk_alloc)); exact BK194.out), GW194.out, GE194.out, NB185_194.out, NB194_185.out, NB186_194.out, NB194_186.out, NB187_194.out, NB194_187.out, NB188_194.out, NB194_188.out, (by repeat (first | (with_reducible first | exact HB.out | apply below_alloc | apply pw_below_drewN | apply below_drew1 | refine below_set ?_ GE185.out | refine below_set ?_ GE186.out | refine below_set ?_ GE187.out | refine below_set ?_ GE188.out | refine below_set ?_ GE194.out) | exact HB.out))⟩)
   rintro gb194 w64 ⟨hS_, h0_, h1_, h2_, h3_, h4_, h5_, h6_, h7_, h8_, h9_, h10_, h11_, h12_, h13_, h14_, h15_⟩
   have n0_ : Aside0 (w64.heap[gb185]? = some (.cells #[.int .i64 a0_0, .int .i64 a0_1] 23 (0, 0))) := ⟨h0_⟩
   have n1_ : Aside0 (w64.heap[gb186]? = some (.cells #[.int .i64 a1_0, .int .i64 a1_1] 23 (0, 0))) := ⟨h1_⟩
   have n2_ : Aside0 (w64.heap[gb187]? = some (.cells #[.int .i64 0, .int .i64 0] 23 (0, 0))) := ⟨h2_⟩
   have n3_ : Aside0 (w64.heap[gb188]? = some (.cells #[.int .i64 0, .int .i64 0] 23 (0, 0))) := ⟨h3_⟩
   have n4_ : Aside0 (w64.heap[gb194]? = some (.cells #[.int .i64 0, .int .i64 0] 23 (0, 0))) := ⟨h4_⟩
   have n5_ : Aside0 (w.heap.size ≤ gb194) := ⟨h5_⟩
   have n6_ : Aside0 (w.heap.size ≤ gb194) := ⟨h6_⟩
   have n7_ : Aside0 (gb185 ≠ gb194) := ⟨h7_⟩
   have n8_ : Aside0 (gb194 ≠ gb185) := ⟨h8_⟩
   have n9_ : Aside0 (gb186 ≠ gb194) := ⟨h9_⟩
   have n10_ : Aside0 (gb194 ≠ gb186) := ⟨h10_⟩
   have n11_ : Aside0 (gb187 ≠ gb194) := ⟨h11_⟩
   have n12_ : Aside0 (gb194 ≠ gb187) := ⟨h12_⟩
   have n13_ : Aside0 (gb188 ≠ gb194) := ⟨h13_⟩
   have n14_ : Aside0 (gb194 ≠ gb188) := ⟨h14_⟩
   have n15_ : Aside0 (Below w.heap.size w w64) := ⟨h15_⟩
   clear BK185
   clear BK186
   clear BK187
   clear BK188
   clear HB
   clear h0_ h1_ h2_ h3_ h4_ h5_ h6_ h7_ h8_ h9_ h10_ h11_ h12_ h13_ h14_ h15_
   have BK185 := n0_
   have BK186 := n1_
   have BK187 := n2_
   have BK188 := n3_
   have BK194 := n4_
   have GW194 := n5_
   have GE194 := n6_
   have NB185_194 := n7_
   have NB194_185 := n8_
   have NB186_194 := n9_
   have NB194_186 := n10_
   have NB187_194 := n11_
   have NB194_187 := n12_
   have NB188_194 := n13_
   have NB194_188 := n14_
   have HB := n15_
   clear n0_ n1_ n2_ n3_ n4_ n5_ n6_ n7_ n8_ n9_ n10_ n11_ n12_ n13_ n14_ n15_
   have hHeld : w64.cell? ⟨gb186, 0, none⟩ = some (.int .i64 a1_0) ∧ w64.cell? ⟨gb186, 1, none⟩ = some (.int .i64 a1_1) := hS_
   refine norm_ (a' := ?_) ?_ ?_
   rotate_left
   ·simp only [putAll, Act.put, List.setIfInBounds_toArray, List.set_cons_zero, List.set_cons_succ]
    rfl
   refine one_ (i := 7) (N := none) #[true, true, true, true, true, true, true, true, false] rfl rfl (one_of HT_.out (by kernel_rfl)) (by decide) (fun K hK => ?_)
   have hs65 : w64.cell? ⟨gb194, 0, none⟩ = some (.int .i64 0) := (blk_cell BK194.out 0).trans rfl
   have hfs65 := blk_frozen BK194.out 0
   have hns65_0 := NB185_194.out
   have hns65_1 := NB186_194.out
   have hns65_2 := NB187_194.out
   have hns65_3 := NB188_194.out
   have hms65_0 := NB194_185.out
   have hms65_1 := NB194_186.out
   have hms65_2 := NB194_187.out
   have hms65_3 := NB194_188.out
   have hs66 : w64.cell? ⟨gb194, 1, none⟩ = some (.int .i64 0) := (blk_cell BK194.out 1).trans rfl
   have hfs66 := blk_frozen BK194.out 1
   have hns66_0 := NB185_194.out
   have hns66_1 := NB186_194.out
   have hns66_2 := NB187_194.out
   have hns66_3 := NB188_194.out
   have hms66_0 := NB194_185.out
   have hms66_1 := NB194_186.out
   have hms66_2 := NB194_187.out
   have hms66_3 := NB194_188.out
   refine skip_ (w1 := ?_) (by rfl) rfl ?_ ?_
   rotate_left
   ·go_simp
    rfl
   refine hK.out _ _ ⟨((cell_far (p := ⟨gb194, _, none⟩) NB186_194.out _).trans (((cell_far (p := ⟨gb194, _, none⟩) NB186_194.out _).trans (hHeld.1)))), ((cell_far (p := ⟨gb194, _, none⟩) NB186_194.out _).trans (((cell_far (p := ⟨gb194, _, none⟩) NB186_194.out _).trans (hHeld.2))))⟩ (fun hHeld => ?_)
   clear hK K
   refine pure_ (i := 8) (N := some 8) (v := ?_) (a' := ?_) #[true, true, true, true, true, true, true, true, true] rfl rfl (any_of HT_.out (by kernel_rfl)) (fun _ _ _ h => h) (Or.inl ⟨by rfl, ?_⟩) ?_ ?_
   rotate_left
   ·intro w'
    go_simp
    with_reducible rfl
   rotate_left
   ·simp only [Act.put, List.setIfInBounds_toArray, List.set_cons_zero, List.set_cons_succ, i64_w, i32_w]
    rfl
   refine done_ (done_of HT_.out (by kernel_rfl)) ?_
   have hnb67 := NB185_186.out
   have hnc67 := NB186_185.out
   have hnb68 := NB185_187.out
   have hnc68 := NB187_185.out
   have hnb69 := NB185_188.out
   have hnc69 := NB188_185.out
   have hnb70 := NB185_194.out
   have hnc70 := NB194_185.out
   have hcz71_0 : w64.cell? ⟨gb185, 0, none⟩ = some (.int .i64 a0_0) := (blk_cell BK185.out 0).trans rfl
   have hcz71_1 : w64.cell? ⟨gb185, 1, none⟩ = some (.int .i64 a0_1) := (blk_cell BK185.out 1).trans rfl
   have hfz71_0 := blk_frozen BK185.out 0
   have hfz71_1 := blk_frozen BK185.out 1
   have hnb72 := NB194_186.out
   have hnc72 := NB186_194.out
   have hnb73 := NB194_187.out
   have hnc73 := NB187_194.out
   have hnb74 := NB194_188.out
   have hnc74 := NB188_194.out
   have hcz75_0 : w64.cell? ⟨gb194, 0, none⟩ = some (.int .i64 0) := (blk_cell BK194.out 0).trans rfl
   have hcz75_1 : w64.cell? ⟨gb194, 1, none⟩ = some (.int .i64 0) := (blk_cell BK194.out 1).trans rfl
   have hfz75_0 := blk_frozen BK194.out 0
   have hfz75_1 := blk_frozen BK194.out 1
   try go_wp2_with (first | ((with_reducible refine gate_callee (f := 14) rfl ?_); refine goesL_ (some 25) rfl rfl Try.func14 (by kernel_rfl) rfl #[.agg #[.int .i64 a0_0, .int .i64 a0_1], .agg #[.int .i64 t191, .int .i64 t192]] rfl (by (try simp only [List.map_toArray, List.map_cons, List.map_nil]); first | done | rfl | (simp only [List.length_drop, List.length_take]; rfl)) ?_; (with_reducible refine (rat_Mul.calls k a0_0 a0_1 t191 t192 t195 t196 t197 _ A6.out).mono ?_); rintro e w76 ⟨rfl, hb⟩; refine ⟨_, rfl, ?_⟩; have n0_ := Aside0.mk (blk_below (g := gb185) (o := .cells #[.int .i64 a0_0, .int .i64 a0_1] 23 (0, 0)) (by (repeat (first | (with_reducible first | apply blk_drewN | apply blk_drew | apply blk_alloc) | refine blk_far ?_ NB185_194.out _)); exact BK185.out) hb); have n1_ := Aside0.mk (blk_below (g := gb186) (o := .cells #[.int .i64 a1_0, .int .i64 a1_1] 23 (0, 0)) (by (repeat (first | (with_reducible first | apply blk_drewN | apply blk_drew | apply blk_alloc) | refine blk_far ?_ NB186_194.out _)); exact BK186.out) hb); have n2_ := Aside0.mk (blk_below (g := gb187) (o := .cells #[.int .i64 0, .int .i64 0] 23 (0, 0)) (by (repeat (first | (with_reducible first | apply blk_drewN | apply blk_drew | apply blk_alloc) | refine blk_far ?_ NB187_194.out _)); exact BK187.out) hb); have n3_ := Aside0.mk (blk_below (g := gb188) (o := .cells #[.int .i64 0, .int .i64 0] 23 (0, 0)) (by (repeat (first | (with_reducible first | apply blk_drewN | apply blk_drew | apply blk_alloc) | refine blk_far ?_ NB188_194.out _)); exact BK188.out) hb); have n4_ := Aside0.mk (blk_below (g := gb194) (o := .cells #[.int .i64 t191, .int .i64 t192] 23 (0, 0)) (by (with_reducible repeat (first | apply blk_drewN | apply blk_drew | apply blk_alloc)); refine blk_put (cs := #[.int .i64 t191, .int .i64 0]) ?_ 1 _ rfl; (with_reducible repeat (first | apply blk_drewN | apply blk_drew | apply blk_alloc)); refine blk_put (cs := #[.int .i64 0, .int .i64 0]) ?_ 0 _ rfl; (with_reducible repeat (first | apply blk_drewN | apply blk_drew | apply blk_alloc)); exact BK194.out) hb); have n5_ := Aside0.mk (below_step (by repeat (first | (with_reducible first | exact HB.out | apply below_alloc | apply pw_below_drewN | apply below_drew1 | refine below_set ?_ GE185.out | refine below_set ?_ GE186.out | refine below_set ?_ GE187.out | refine below_set ?_ GE188.out | refine below_set ?_ GE194.out) | exact HB.out)) hb); clear BK185; clear BK186; clear BK187; clear BK188; clear BK194; clear HB; have BK185 := n0_; have BK186 := n1_; have BK187 := n2_; have BK188 := n3_; have BK194 := n4_; have HB := n5_; clear n0_ n1_ n2_ n3_ n4_ n5_; (try clear hb); (try clear hb2); (try clear hk); (try clear hi)) | ((with_reducible refine gate_dst (N := 9) rfl ?_); refine box_event ?hg (N := 9) ?hd (cs := #[.int .i64 0, .int .i64 0]) (t := 23) ?hr ?_; (case hd => rfl); (case hg => rfl); (case hr => first | (go_simp; done) | (go_simp; rfl)); intro gb198 hg w77 hbox hb; have n0_ := Aside0.mk (blk_below (g := gb185) (o := .cells #[.int .i64 a0_0, .int .i64 a0_1] 23 (0, 0)) (by (with_reducible repeat (first | apply blk_drewN | apply blk_drew | apply blk_alloc)); exact BK185.out) hb); have n1_ := Aside0.mk (blk_below (g := gb186) (o := .cells #[.int .i64 a1_0, .int .i64 a1_1] 23 (0, 0)) (by (with_reducible repeat (first | apply blk_drewN | apply blk_drew | apply blk_alloc)); exact BK186.out) hb); have n2_ := Aside0.mk (blk_below (g := gb187) (o := .cells #[.int .i64 0, .int .i64 0] 23 (0, 0)) (by (with_reducible repeat (first | apply blk_drewN | apply blk_drew | apply blk_alloc)); exact BK187.out) hb); have n3_ := Aside0.mk (blk_below (g := gb188) (o := .cells #[.int .i64 0, .int .i64 0] 23 (0, 0)) (by (with_reducible repeat (first | apply blk_drewN | apply blk_drew | apply blk_alloc)); exact BK188.out) hb); have n4_ := Aside0.mk (blk_below (g := gb194) (o := .cells #[.int .i64 t191, .int .i64 t192] 23 (0, 0)) (by (with_reducible repeat (first | apply blk_drewN | apply blk_drew | apply blk_alloc)); exact BK194.out) hb); have n5_ := Aside0.mk (below_step (by repeat (first | (with_reducible first | exact HB.out | apply below_alloc | apply pw_below_drewN | apply below_drew1 | refine below_set ?_ GE185.out | refine below_set ?_ GE186.out | refine below_set ?_ GE187.out | refine below_set ?_ GE188.out | refine below_set ?_ GE194.out) | exact HB.out)) hb); have n6_ := Aside0.mk (hbox); have n7_ := Aside0.mk ((by rw [hg]; exact (below_size (by repeat (first | (with_reducible first | exact HB.out | apply below_alloc | apply pw_below_drewN | apply below_drew1 | refine below_set ?_ GE185.out | refine below_set ?_ GE186.out | refine below_set ?_ GE187.out | refine below_set ?_ GE188.out | refine below_set ?_ GE194.out) | exact HB.out))) : w.heap.size ≤ gb198)); have n8_ := Aside0.mk ((by rw [hg]; exact (below_size (by repeat (first | (with_reducible first | exact HB.out | apply below_alloc | apply pw_below_drewN | apply below_drew1 | refine below_set ?_ GE185.out | refine below_set ?_ GE186.out | refine below_set ?_ GE187.out | refine below_set ?_ GE188.out | refine below_set ?_ GE194.out) | exact HB.out))) : w.heap.size ≤ gb198)); have n9_ := Aside0.mk ((by rw [hg]; exact Nat.ne_of_lt (blk_lt (g := gb185) (o := .cells #[.int .i64 a0_0, .int .i64 a0_1] 23 (0, 0)) (by (with_reducible repeat (first | apply blk_drewN | apply blk_drew | apply blk_alloc)); exact BK185.out)) : gb185 ≠ gb198)); have n10_ := Aside0.mk ((by rw [hg]; exact Nat.ne_of_gt (blk_lt (g := gb185) (o := .cells #[.int .i64 a0_0, .int .i64 a0_1] 23 (0, 0)) (by (with_reducible repeat (first | apply blk_drewN | apply blk_drew | apply blk_alloc)); exact BK185.out)) : gb198 ≠ gb185)); have n11_ := Aside0.mk ((by rw [hg]; exact Nat.ne_of_lt (blk_lt (g := gb186) (o := .cells #[.int .i64 a1_0, .int .i64 a1_1] 23 (0, 0)) (by (with_reducible repeat (first | apply blk_drewN | apply blk_drew | apply blk_alloc)); exact BK186.out)) : gb186 ≠ gb198)); have n12_ := Aside0.mk ((by rw [hg]; exact Nat.ne_of_gt (blk_lt (g := gb186) (o := .cells #[.int .i64 a1_0, .int .i64 a1_1] 23 (0, 0)) (by (with_reducible repeat (first | apply blk_drewN | apply blk_drew | apply blk_alloc)); exact BK186.out)) : gb198 ≠ gb186)); have n13_ := Aside0.mk ((by rw [hg]; exact Nat.ne_of_lt (blk_lt (g := gb187) (o := .cells #[.int .i64 0, .int .i64 0] 23 (0, 0)) (by (with_reducible repeat (first | apply blk_drewN | apply blk_drew | apply blk_alloc)); exact BK187.out)) : gb187 ≠ gb198)); have n14_ := Aside0.mk ((by rw [hg]; exact Nat.ne_of_gt (blk_lt (g := gb187) (o := .cells #[.int .i64 0, .int .i64 0] 23 (0, 0)) (by (with_reducible repeat (first | apply blk_drewN | apply blk_drew | apply blk_alloc)); exact BK187.out)) : gb198 ≠ gb187)); have n15_ := Aside0.mk ((by rw [hg]; exact Nat.ne_of_lt (blk_lt (g := gb188) (o := .cells #[.int .i64 0, .int .i64 0] 23 (0, 0)) (by (with_reducible repeat (first | apply blk_drewN | apply blk_drew | apply blk_alloc)); exact BK188.out)) : gb188 ≠ gb198)); have n16_ := Aside0.mk ((by rw [hg]; exact Nat.ne_of_gt (blk_lt (g := gb188) (o := .cells #[.int .i64 0, .int .i64 0] 23 (0, 0)) (by (with_reducible repeat (first | apply blk_drewN | apply blk_drew | apply blk_alloc)); exact BK188.out)) : gb198 ≠ gb188)); have n17_ := Aside0.mk ((by rw [hg]; exact Nat.ne_of_lt (blk_lt (g := gb194) (o := .cells #[.int .i64 t191, .int .i64 t192] 23 (0, 0)) (by (with_reducible repeat (first | apply blk_drewN | apply blk_drew | apply blk_alloc)); exact BK194.out)) : gb194 ≠ gb198)); have n18_ := Aside0.mk ((by rw [hg]; exact Nat.ne_of_gt (blk_lt (g := gb194) (o := .cells #[.int .i64 t191, .int .i64 t192] 23 (0, 0)) (by (with_reducible repeat (first | apply blk_drewN | apply blk_drew | apply blk_alloc)); exact BK194.out)) : gb198 ≠ gb194)); clear BK185; clear BK186; clear BK187; clear BK188; clear BK194; clear HB; have BK185 := n0_; have BK186 := n1_; have BK187 := n2_; have BK188 := n3_; have BK194 := n4_; have HB := n5_; have BK198 := n6_; have GW198 := n7_; have GE198 := n8_; have NB185_198 := n9_; have NB198_185 := n10_; have NB186_198 := n11_; have NB198_186 := n12_; have NB187_198 := n13_; have NB198_187 := n14_; have NB188_198 := n15_; have NB198_188 := n16_; have NB194_198 := n17_; have NB198_194 := n18_; clear n0_ n1_ n2_ n3_ n4_ n5_ n6_ n7_ n8_ n9_ n10_ n11_ n12_ n13_ n14_ n15_ n16_ n17_ n18_; clear hb hbox hg; have hnb78 := NB198_185.out; have hnc78 := NB185_198.out; have hnb79 := NB198_186.out; have hnc79 := NB186_198.out; have hnb80 := NB198_187.out; have hnc80 := NB187_198.out; have hnb81 := NB198_188.out; have hnc81 := NB188_198.out; have hnb82 := NB198_194.out; have hnc82 := NB194_198.out; have hcz83_0 : w77.cell? ⟨gb198, 0, none⟩ = some (.int .i64 0) := (blk_cell BK198.out 0).trans rfl; have hcz83_1 : w77.cell? ⟨gb198, 1, none⟩ = some (.int .i64 0) := (blk_cell BK198.out 1).trans rfl; have hfz83_0 := blk_frozen BK198.out 0; have hfz83_1 := blk_frozen BK198.out 1))
   have n0_ : Aside0 (((w77.setCell ⟨gb198, 0, none⟩ (.int .i64 t195)).setCell ⟨gb198, 1, none⟩ (.int .i64 t196)).heap[gb185]? = some (.cells #[.int .i64 a0_0, .int .i64 a0_1] 23 (0, 0))) := ⟨by (repeat (first | (with_reducible first | apply blk_drewN | apply blk_drew | apply blk_alloc) | refine blk_far ?_ NB185_198.out _)); exact BK185.out⟩
   have n1_ : Aside0 (((w77.setCell ⟨gb198, 0, none⟩ (.int .i64 t195)).setCell ⟨gb198, 1, none⟩ (.int .i64 t196)).heap[gb186]? = some (.cells #[.int .i64 a1_0, .int .i64 a1_1] 23 (0, 0))) := ⟨by (repeat (first | (with_reducible first | apply blk_drewN | apply blk_drew | apply blk_alloc) | refine blk_far ?_ NB186_198.out _)); exact BK186.out⟩
   have n2_ : Aside0 (((w77.setCell ⟨gb198, 0, none⟩ (.int .i64 t195)).setCell ⟨gb198, 1, none⟩ (.int .i64 t196)).heap[gb187]? = some (.cells #[.int .i64 0, .int .i64 0] 23 (0, 0))) := ⟨by (repeat (first | (with_reducible first | apply blk_drewN | apply blk_drew | apply blk_alloc) | refine blk_far ?_ NB187_198.out _)); exact BK187.out⟩
   have n3_ : Aside0 (((w77.setCell ⟨gb198, 0, none⟩ (.int .i64 t195)).setCell ⟨gb198, 1, none⟩ (.int .i64 t196)).heap[gb188]? = some (.cells #[.int .i64 0, .int .i64 0] 23 (0, 0))) := ⟨by (repeat (first | (with_reducible first | apply blk_drewN | apply blk_drew | apply blk_alloc) | refine blk_far ?_ NB188_198.out _)); exact BK188.out⟩
   have n4_ : Aside0 (((w77.setCell ⟨gb198, 0, none⟩ (.int .i64 t195)).setCell ⟨gb198, 1, none⟩ (.int .i64 t196)).heap[gb194]? = some (.cells #[.int .i64 t191, .int .i64 t192] 23 (0, 0))) := ⟨by (repeat (first | (with_reducible first | apply blk_drewN | apply blk_drew | apply blk_alloc) | refine blk_far ?_ NB194_198.out _)); exact BK194.out⟩
   have n5_ : Aside0 (((w77.setCell ⟨gb198, 0, none⟩ (.int .i64 t195)).setCell ⟨gb198, 1, none⟩ (.int .i64 t196)).heap[gb198]? = some (.cells #[.int .i64 t195, .int .i64 t196] 23 (0, 0))) := ⟨by (with_reducible repeat (first | apply blk_drewN | apply blk_drew | apply blk_alloc)); refine blk_put (cs := #[.int .i64 t195, .int .i64 0]) ?_ 1 _ rfl; (with_reducible repeat (first | apply blk_drewN | apply blk_drew | apply blk_alloc)); refine blk_put (cs := #[.int .i64 0, .int .i64 0]) ?_ 0 _ rfl; (with_reducible repeat (first | apply blk_drewN | apply blk_drew | apply blk_alloc)); exact BK198.out⟩
   have n6_ : Aside0 (Below w.heap.size w ((w77.setCell ⟨gb198, 0, none⟩ (.int .i64 t195)).setCell ⟨gb198, 1, none⟩ (.int .i64 t196))) := ⟨by repeat (first | (with_reducible first | exact HB.out | apply below_alloc | apply pw_below_drewN | apply below_drew1 | refine below_set ?_ GE185.out | refine below_set ?_ GE186.out | refine below_set ?_ GE187.out | refine below_set ?_ GE188.out | refine below_set ?_ GE194.out | refine below_set ?_ GE198.out) | exact HB.out)⟩
   (try clear BK185)
   (try clear BK186)
   (try clear BK187)
   (try clear BK188)
   (try clear BK194)
   (try clear BK198)
   (try clear HB)
   generalize ((w77.setCell ⟨gb198, 0, none⟩ (.int .i64 t195)).setCell ⟨gb198, 1, none⟩ (.int .i64 t196)) = w84 at n0_ n1_ n2_ n3_ n4_ n5_ n6_ ⊢
   have BK185 := n0_
   have BK186 := n1_
   have BK187 := n2_
   have BK188 := n3_
   have BK194 := n4_
   have BK198 := n5_
   have HB := n6_
   clear n0_ n1_ n2_ n3_ n4_ n5_ n6_
   have n0_ := Aside0.mk (blk_drew BK185.out)
   have n1_ := Aside0.mk (blk_drew BK186.out)
   have n2_ := Aside0.mk (blk_drew BK187.out)
   have n3_ := Aside0.mk (blk_drew BK188.out)
   have n4_ := Aside0.mk (blk_drew BK194.out)
   have n5_ := Aside0.mk (blk_drew BK198.out)
   have n6_ := Aside0.mk (below_drew1 HB.out)
   clear BK185
   clear BK186
   clear BK187
   clear BK188
   clear BK194
   clear BK198
   clear HB
   have BK185 := n0_
   have BK186 := n1_
   have BK187 := n2_
   have BK188 := n3_
   have BK194 := n4_
   have BK198 := n5_
   have HB := n6_
   clear n0_ n1_ n2_ n3_ n4_ n5_ n6_
   refine start_ (n := 6) (S := fun w' => w'.cell? ⟨gb198, 0, none⟩ = some (.int .i64 t195) ∧ w'.cell? ⟨gb198, 1, none⟩ = some (.int .i64 t196) ∧ w'.cell? ⟨gb186, 0, none⟩ = some (.int .i64 a1_0) ∧ w'.cell? ⟨gb186, 1, none⟩ = some (.int .i64 a1_1)) (ds := []) #[false, false, false, false, false, false] (by kernel_rfl) rfl rfl ⟨(blk_cell BK198.out 0).trans rfl, (blk_cell BK198.out 1).trans rfl, (blk_cell BK186.out 0).trans rfl, (blk_cell BK186.out 1).trans rfl⟩ (fun hHeld => ?_)
   generalize w84.drew = w85 at BK185 BK186 BK187 BK188 BK194 BK198 HB hHeld ⊢
   refine pure_ (i := 2) (N := some 32) (v := ?_) (a' := ?_) #[false, false, true, false, false, false] rfl rfl (by kernel_rfl) (fun _ _ _ h => h) (Or.inl ⟨by rfl, ?_⟩) ?_ ?_
   rotate_left
   ·intro w'
    go_simp
    with_reducible rfl
   rotate_left
   ·simp only [Act.put, List.setIfInBounds_toArray, List.set_cons_zero, List.set_cons_succ, i64_w, i32_w]
    rfl
   refine take_ (i := 0) (N := some 30) (v := ?_) (a' := ?_) #[true, false, true, false, false, false] rfl rfl (by kernel_rfl) (fun _ _ _ h => h) (Or.inl ⟨by rfl, ?_⟩) hHeld ?_ ?_
   rotate_left
   ·rintro w' ⟨s0, s1, s2, s3⟩
    go_simp
    with_reducible rfl
   rotate_left
   ·simp only [Act.put, List.setIfInBounds_toArray, List.set_cons_zero, List.set_cons_succ, i64_w, i32_w]
    rfl
   refine take_ (i := 1) (N := some 31) (v := ?_) (a' := ?_) #[true, true, true, false, false, false] rfl rfl (by kernel_rfl) (fun _ _ _ h => h) (Or.inl ⟨by rfl, ?_⟩) hHeld ?_ ?_
   rotate_left
   ·rintro w' ⟨s0, s1, s2, s3⟩
    go_simp
    with_reducible rfl
   rotate_left
   ·simp only [Act.put, List.setIfInBounds_toArray, List.set_cons_zero, List.set_cons_succ, i64_w, i32_w]
    rfl
   refine one_ (i := 3) (N := none) #[true, true, true, true, false, false] rfl rfl (by kernel_rfl) (by decide) (fun K hK => ?_)
   have hs86 : w85.cell? ⟨gb187, 0, none⟩ = some (.int .i64 0) := (blk_cell BK187.out 0).trans rfl
   have hfs86 := blk_frozen BK187.out 0
   have hns86_0 := NB185_187.out
   have hns86_1 := NB186_187.out
   have hns86_3 := NB188_187.out
   have hns86_4 := NB194_187.out
   have hns86_5 := NB198_187.out
   have hms86_0 := NB187_185.out
   have hms86_1 := NB187_186.out
   have hms86_3 := NB187_188.out
   have hms86_4 := NB187_194.out
   have hms86_5 := NB187_198.out
   have hs87 : w85.cell? ⟨gb187, 1, none⟩ = some (.int .i64 0) := (blk_cell BK187.out 1).trans rfl
   have hfs87 := blk_frozen BK187.out 1
   have hns87_0 := NB185_187.out
   have hns87_1 := NB186_187.out
   have hns87_3 := NB188_187.out
   have hns87_4 := NB194_187.out
   have hns87_5 := NB198_187.out
   have hms87_0 := NB187_185.out
   have hms87_1 := NB187_186.out
   have hms87_3 := NB187_188.out
   have hms87_4 := NB187_194.out
   have hms87_5 := NB187_198.out
   refine skip_ (w1 := ?_) (by rfl) rfl ?_ ?_
   rotate_left
   ·go_simp
    rfl
   refine hK.out _ _ ⟨((cell_far (p := ⟨gb187, _, none⟩) NB198_187.out _).trans (((cell_far (p := ⟨gb187, _, none⟩) NB198_187.out _).trans (hHeld.1)))), ((cell_far (p := ⟨gb187, _, none⟩) NB198_187.out _).trans (((cell_far (p := ⟨gb187, _, none⟩) NB198_187.out _).trans (hHeld.2.1)))), ((cell_far (p := ⟨gb187, _, none⟩) NB186_187.out _).trans (((cell_far (p := ⟨gb187, _, none⟩) NB186_187.out _).trans (hHeld.2.2.1)))), ((cell_far (p := ⟨gb187, _, none⟩) NB186_187.out _).trans (((cell_far (p := ⟨gb187, _, none⟩) NB186_187.out _).trans (hHeld.2.2.2))))⟩ (fun hHeld => ?_)
   clear hK K
   refine one_ (i := 4) (N := none) #[true, true, true, true, true, false] rfl rfl (by kernel_rfl) (by decide) (fun K hK => ?_)
   have hs88 : w85.cell? ⟨gb188, 0, none⟩ = some (.int .i64 0) := (blk_cell BK188.out 0).trans rfl
   have hfs88 := blk_frozen BK188.out 0
   have hns88_0 := NB185_188.out
   have hns88_1 := NB186_188.out
   have hns88_2 := NB187_188.out
   have hns88_4 := NB194_188.out
   have hns88_5 := NB198_188.out
   have hms88_0 := NB188_185.out
   have hms88_1 := NB188_186.out
   have hms88_2 := NB188_187.out
   have hms88_4 := NB188_194.out
   have hms88_5 := NB188_198.out
   have hs89 : w85.cell? ⟨gb188, 1, none⟩ = some (.int .i64 0) := (blk_cell BK188.out 1).trans rfl
   have hfs89 := blk_frozen BK188.out 1
   have hns89_0 := NB185_188.out
   have hns89_1 := NB186_188.out
   have hns89_2 := NB187_188.out
   have hns89_4 := NB194_188.out
   have hns89_5 := NB198_188.out
   have hms89_0 := NB188_185.out
   have hms89_1 := NB188_186.out
   have hms89_2 := NB188_187.out
   have hms89_4 := NB188_194.out
   have hms89_5 := NB188_198.out
   refine skip_ (w1 := ?_) (by rfl) rfl ?_ ?_
   rotate_left
   ·go_simp
    rfl
   refine hK.out _ _ ⟨((cell_far (p := ⟨gb188, _, none⟩) NB198_188.out _).trans (((cell_far (p := ⟨gb188, _, none⟩) NB198_188.out _).trans (hHeld.1)))), ((cell_far (p := ⟨gb188, _, none⟩) NB198_188.out _).trans (((cell_far (p := ⟨gb188, _, none⟩) NB198_188.out _).trans (hHeld.2.1)))), ((cell_far (p := ⟨gb188, _, none⟩) NB186_188.out _).trans (((cell_far (p := ⟨gb188, _, none⟩) NB186_188.out _).trans (hHeld.2.2.1)))), ((cell_far (p := ⟨gb188, _, none⟩) NB186_188.out _).trans (((cell_far (p := ⟨gb188, _, none⟩) NB186_188.out _).trans (hHeld.2.2.2))))⟩ (fun hHeld => ?_)
   clear hK K
   refine pure_ (i := 5) (N := some 6) (v := ?_) (a' := ?_) #[true, true, true, true, true, true] rfl rfl (by kernel_rfl) (fun _ _ _ h => h) (Or.inl ⟨by rfl, ?_⟩) ?_ ?_
   rotate_left
   ·intro w'
    go_simp
    with_reducible rfl
   rotate_left
   ·simp only [Act.put, List.setIfInBounds_toArray, List.set_cons_zero, List.set_cons_succ, i64_w, i32_w]
    rfl
   refine done_ (by kernel_rfl) ?_
   try go_wp2
   refine bodyPost_ret (results_list (rs := [.cell 4 23, .cell 5 23, .tmp 6]) rfl (by simp) (.cell gb187 23 #[.int .i64 t195, .int .i64 t196] (0, 0) _ rfl (by (with_reducible repeat (first | apply blk_drewN | apply blk_drew | apply blk_alloc)); refine blk_far ?_ NB187_188.out _; (with_reducible repeat (first | apply blk_drewN | apply blk_drew | apply blk_alloc)); refine blk_far ?_ NB187_188.out _; (with_reducible repeat (first | apply blk_drewN | apply blk_drew | apply blk_alloc)); refine blk_put (cs := #[.int .i64 t195, .int .i64 0]) ?_ 1 _ rfl; (with_reducible repeat (first | apply blk_drewN | apply blk_drew | apply blk_alloc)); refine blk_put (cs := #[.int .i64 0, .int .i64 0]) ?_ 0 _ rfl; (with_reducible repeat (first | apply blk_drewN | apply blk_drew | apply blk_alloc)); exact BK187.out) Try.underlying23 rfl (by kernel_rfl) (.cell gb188 23 #[.int .i64 a1_0, .int .i64 a1_1] (0, 0) _ rfl (by (with_reducible repeat (first | apply blk_drewN | apply blk_drew | apply blk_alloc)); refine blk_put (cs := #[.int .i64 a1_0, .int .i64 0]) ?_ 1 _ rfl; (with_reducible repeat (first | apply blk_drewN | apply blk_drew | apply blk_alloc)); refine blk_put (cs := #[.int .i64 0, .int .i64 0]) ?_ 0 _ rfl; (repeat (first | (with_reducible first | apply blk_drewN | apply blk_drew | apply blk_alloc) | refine blk_far ?_ NB188_187.out _)); exact BK188.out) Try.underlying23 rfl (by kernel_rfl) (.tmp .nil)))) rfl ?_
   exact ⟨by first | rfl | (simp [errW_none, errW_some] <;> rfl) | (simp [*, errW_none, errW_some] <;> rfl), by repeat (first | (with_reducible first | exact HB.out | apply below_alloc | apply pw_below_drewN | apply below_drew1 | refine below_set ?_ GE185.out | refine below_set ?_ GE186.out | refine below_set ?_ GE187.out | refine below_set ?_ GE188.out | refine below_set ?_ GE194.out | refine below_set ?_ GE198.out) | exact HB.out)⟩
 ·rw [if_neg c5] at H
  have c5b0 : (t193 == 0) = false := beq_eq_false_iff_ne.mpr c5
  have c5b1 : (t193 != 0) = true := bne_iff_ne.mpr c5
  simp only [Option.some.injEq, Prod.mk.injEq] at H
  obtain ⟨rfl, rfl, rfl, rfl, rfl⟩ := H
  go_enter Try.func39, Try.ntmps39
  try go_wp2_with (first | ((with_reducible refine gate_dst (N := 2) rfl ?_); refine box_event ?hg (N := 2) ?hd (cs := #[.int .i64 a0_0, .int .i64 a0_1]) (t := 23) ?hr ?_; (case hd => rfl); (case hg => rfl); (case hr => first | (go_simp; done) | (go_simp; rfl)); intro gb185 hg w90 hbox hb; have n0_ := Aside0.mk (below_step (by repeat (first | (with_reducible first | exact HB.out | apply below_alloc | apply pw_below_drewN | apply below_drew1) | exact HB.out)) hb); have n1_ := Aside0.mk (hbox); have n2_ := Aside0.mk ((by rw [hg]; exact (below_size (by repeat (first | (with_reducible first | exact HB.out | apply below_alloc | apply pw_below_drewN | apply below_drew1) | exact HB.out))) : w.heap.size ≤ gb185)); have n3_ := Aside0.mk ((by rw [hg]; exact (below_size (by repeat (first | (with_reducible first | exact HB.out | apply below_alloc | apply pw_below_drewN | apply below_drew1) | exact HB.out))) : w.heap.size ≤ gb185)); clear HB; have HB := n0_; have BK185 := n1_; have GW185 := n2_; have GE185 := n3_; clear n0_ n1_ n2_ n3_; clear hb hbox hg) | ((with_reducible refine gate_dst (N := 3) rfl ?_); refine box_event ?hg (N := 3) ?hd (cs := #[.int .i64 a1_0, .int .i64 a1_1]) (t := 23) ?hr ?_; (case hd => rfl); (case hg => rfl); (case hr => first | (go_simp; done) | (go_simp; rfl)); intro gb186 hg w91 hbox hb; have n0_ := Aside0.mk (blk_below (g := gb185) (o := .cells #[.int .i64 a0_0, .int .i64 a0_1] 23 (0, 0)) (by (with_reducible repeat (first | apply blk_drewN | apply blk_drew | apply blk_alloc)); exact BK185.out) hb); have n1_ := Aside0.mk (below_step (by repeat (first | (with_reducible first | exact HB.out | apply below_alloc | apply pw_below_drewN | apply below_drew1 | refine below_set ?_ GE185.out) | exact HB.out)) hb); have n2_ := Aside0.mk (hbox); have n3_ := Aside0.mk ((by rw [hg]; exact (below_size (by repeat (first | (with_reducible first | exact HB.out | apply below_alloc | apply pw_below_drewN | apply below_drew1 | refine below_set ?_ GE185.out) | exact HB.out))) : w.heap.size ≤ gb186)); have n4_ := Aside0.mk ((by rw [hg]; exact (below_size (by repeat (first | (with_reducible first | exact HB.out | apply below_alloc | apply pw_below_drewN | apply below_drew1 | refine below_set ?_ GE185.out) | exact HB.out))) : w.heap.size ≤ gb186)); have n5_ := Aside0.mk ((by rw [hg]; exact Nat.ne_of_lt (blk_lt (g := gb185) (o := .cells #[.int .i64 a0_0, .int .i64 a0_1] 23 (0, 0)) (by (with_reducible repeat (first | apply blk_drewN | apply blk_drew | apply blk_alloc)); exact BK185.out)) : gb185 ≠ gb186)); have n6_ := Aside0.mk ((by rw [hg]; exact Nat.ne_of_gt (blk_lt (g := gb185) (o := .cells #[.int .i64 a0_0, .int .i64 a0_1] 23 (0, 0)) (by (with_reducible repeat (first | apply blk_drewN | apply blk_drew | apply blk_alloc)); exact BK185.out)) : gb186 ≠ gb185)); clear BK185; clear HB; have BK185 := n0_; have HB := n1_; have BK186 := n2_; have GW186 := n3_; have GE186 := n4_; have NB185_186 := n5_; have NB186_185 := n6_; clear n0_ n1_ n2_ n3_ n4_ n5_ n6_; clear hb hbox hg) | ((with_reducible refine gate_dst (N := 4) rfl ?_); refine box_event ?hg (N := 4) ?hd (cs := #[.int .i64 0, .int .i64 0]) (t := 23) ?hr ?_; (case hd => rfl); (case hg => rfl); (case hr => first | (go_simp; done) | (go_simp; rfl)); intro gb187 hg w92 hbox hb; have n0_ := Aside0.mk (blk_below (g := gb185) (o := .cells #[.int .i64 a0_0, .int .i64 a0_1] 23 (0, 0)) (by (with_reducible repeat (first | apply blk_drewN | apply blk_drew | apply blk_alloc)); exact BK185.out) hb); have n1_ := Aside0.mk (blk_below (g := gb186) (o := .cells #[.int .i64 a1_0, .int .i64 a1_1] 23 (0, 0)) (by (with_reducible repeat (first | apply blk_drewN | apply blk_drew | apply blk_alloc)); exact BK186.out) hb); have n2_ := Aside0.mk (below_step (by repeat (first | (with_reducible first | exact HB.out | apply below_alloc | apply pw_below_drewN | apply below_drew1 | refine below_set ?_ GE185.out | refine below_set ?_ GE186.out) | exact HB.out)) hb); have n3_ := Aside0.mk (hbox); have n4_ := Aside0.mk ((by rw [hg]; exact (below_size (by repeat (first | (with_reducible first | exact HB.out | apply below_alloc | apply pw_below_drewN | apply below_drew1 | refine below_set ?_ GE185.out | refine below_set ?_ GE186.out) | exact HB.out))) : w.heap.size ≤ gb187)); have n5_ := Aside0.mk ((by rw [hg]; exact (below_size (by repeat (first | (with_reducible first | exact HB.out | apply below_alloc | apply pw_below_drewN | apply below_drew1 | refine below_set ?_ GE185.out | refine below_set ?_ GE186.out) | exact HB.out))) : w.heap.size ≤ gb187)); have n6_ := Aside0.mk ((by rw [hg]; exact Nat.ne_of_lt (blk_lt (g := gb185) (o := .cells #[.int .i64 a0_0, .int .i64 a0_1] 23 (0, 0)) (by (with_reducible repeat (first | apply blk_drewN | apply blk_drew | apply blk_alloc)); exact BK185.out)) : gb185 ≠ gb187)); have n7_ := Aside0.mk ((by rw [hg]; exact Nat.ne_of_gt (blk_lt (g := gb185) (o := .cells #[.int .i64 a0_0, .int .i64 a0_1] 23 (0, 0)) (by (with_reducible repeat (first | apply blk_drewN | apply blk_drew | apply blk_alloc)); exact BK185.out)) : gb187 ≠ gb185)); have n8_ := Aside0.mk ((by rw [hg]; exact Nat.ne_of_lt (blk_lt (g := gb186) (o := .cells #[.int .i64 a1_0, .int .i64 a1_1] 23 (0, 0)) (by (with_reducible repeat (first | apply blk_drewN | apply blk_drew | apply blk_alloc)); exact BK186.out)) : gb186 ≠ gb187)); have n9_ := Aside0.mk ((by rw [hg]; exact Nat.ne_of_gt (blk_lt (g := gb186) (o := .cells #[.int .i64 a1_0, .int .i64 a1_1] 23 (0, 0)) (by (with_reducible repeat (first | apply blk_drewN | apply blk_drew | apply blk_alloc)); exact BK186.out)) : gb187 ≠ gb186)); clear BK185; clear BK186; clear HB; have BK185 := n0_; have BK186 := n1_; have HB := n2_; have BK187 := n3_; have GW187 := n4_; have GE187 := n5_; have NB185_187 := n6_; have NB187_185 := n7_; have NB186_187 := n8_; have NB187_186 := n9_; clear n0_ n1_ n2_ n3_ n4_ n5_ n6_ n7_ n8_ n9_; clear hb hbox hg) | ((with_reducible refine gate_dst (N := 5) rfl ?_); refine box_event ?hg (N := 5) ?hd (cs := #[.int .i64 0, .int .i64 0]) (t := 23) ?hr ?_; (case hd => rfl); (case hg => rfl); (case hr => first | (go_simp; done) | (go_simp; rfl)); intro gb188 hg w93 hbox hb; have n0_ := Aside0.mk (blk_below (g := gb185) (o := .cells #[.int .i64 a0_0, .int .i64 a0_1] 23 (0, 0)) (by (with_reducible repeat (first | apply blk_drewN | apply blk_drew | apply blk_alloc)); exact BK185.out) hb); have n1_ := Aside0.mk (blk_below (g := gb186) (o := .cells #[.int .i64 a1_0, .int .i64 a1_1] 23 (0, 0)) (by (with_reducible repeat (first | apply blk_drewN | apply blk_drew | apply blk_alloc)); exact BK186.out) hb); have n2_ := Aside0.mk (blk_below (g := gb187) (o := .cells #[.int .i64 0, .int .i64 0] 23 (0, 0)) (by (with_reducible repeat (first | apply blk_drewN | apply blk_drew | apply blk_alloc)); exact BK187.out) hb); have n3_ := Aside0.mk (below_step (by repeat (first | (with_reducible first | exact HB.out | apply below_alloc | apply pw_below_drewN | apply below_drew1 | refine below_set ?_ GE185.out | refine below_set ?_ GE186.out | refine below_set ?_ GE187.out) | exact HB.out)) hb); have n4_ := Aside0.mk (hbox); have n5_ := Aside0.mk ((by rw [hg]; exact (below_size (by repeat (first | (with_reducible first | exact HB.out | apply below_alloc | apply pw_below_drewN | apply below_drew1 | refine below_set ?_ GE185.out | refine below_set ?_ GE186.out | refine below_set ?_ GE187.out) | exact HB.out))) : w.heap.size ≤ gb188)); have n6_ := Aside0.mk ((by rw [hg]; exact (below_size (by repeat (first | (with_reducible first | exact HB.out | apply below_alloc | apply pw_below_drewN | apply below_drew1 | refine below_set ?_ GE185.out | refine below_set ?_ GE186.out | refine below_set ?_ GE187.out) | exact HB.out))) : w.heap.size ≤ gb188)); have n7_ := Aside0.mk ((by rw [hg]; exact Nat.ne_of_lt (blk_lt (g := gb185) (o := .cells #[.int .i64 a0_0, .int .i64 a0_1] 23 (0, 0)) (by (with_reducible repeat (first | apply blk_drewN | apply blk_drew | apply blk_alloc)); exact BK185.out)) : gb185 ≠ gb188)); have n8_ := Aside0.mk ((by rw [hg]; exact Nat.ne_of_gt (blk_lt (g := gb185) (o := .cells #[.int .i64 a0_0, .int .i64 a0_1] 23 (0, 0)) (by (with_reducible repeat (first | apply blk_drewN | apply blk_drew | apply blk_alloc)); exact BK185.out)) : gb188 ≠ gb185)); have n9_ := Aside0.mk ((by rw [hg]; exact Nat.ne_of_lt (blk_lt (g := gb186) (o := .cells #[.int .i64 a1_0, .int .i64 a1_1] 23 (0, 0)) (by (with_reducible repeat (first | apply blk_drewN | apply blk_drew | apply blk_alloc)); exact BK186.out)) : gb186 ≠ gb188)); have n10_ := Aside0.mk ((by rw [hg]; exact Nat.ne_of_gt (blk_lt (g := gb186) (o := .cells #[.int .i64 a1_0, .int .i64 a1_1] 23 (0, 0)) (by (with_reducible repeat (first | apply blk_drewN | apply blk_drew | apply blk_alloc)); exact BK186.out)) : gb188 ≠ gb186)); have n11_ := Aside0.mk ((by rw [hg]; exact Nat.ne_of_lt (blk_lt (g := gb187) (o := .cells #[.int .i64 0, .int .i64 0] 23 (0, 0)) (by (with_reducible repeat (first | apply blk_drewN | apply blk_drew | apply blk_alloc)); exact BK187.out)) : gb187 ≠ gb188)); have n12_ := Aside0.mk ((by rw [hg]; exact Nat.ne_of_gt (blk_lt (g := gb187) (o := .cells #[.int .i64 0, .int .i64 0] 23 (0, 0)) (by (with_reducible repeat (first | apply blk_drewN | apply blk_drew | apply blk_alloc)); exact BK187.out)) : gb188 ≠ gb187)); clear BK185; clear BK186; clear BK187; clear HB; have BK185 := n0_; have BK186 := n1_; have BK187 := n2_; have HB := n3_; have BK188 := n4_; have GW188 := n5_; have GE188 := n6_; have NB185_188 := n7_; have NB188_185 := n8_; have NB186_188 := n9_; have NB188_186 := n10_; have NB187_188 := n11_; have NB188_187 := n12_; clear n0_ n1_ n2_ n3_ n4_ n5_ n6_ n7_ n8_ n9_ n10_ n11_ n12_; clear hb hbox hg))
  have n0_ := Aside0.mk (blk_drew BK185.out)
  have n1_ := Aside0.mk (blk_drew BK186.out)
  have n2_ := Aside0.mk (blk_drew BK187.out)
  have n3_ := Aside0.mk (blk_drew BK188.out)
  have n4_ := Aside0.mk (below_drew1 HB.out)
  clear BK185
  clear BK186
  clear BK187
  clear BK188
  clear HB
  have BK185 := n0_
  have BK186 := n1_
  have BK187 := n2_
  have BK188 := n3_
  have HB := n4_
  clear n0_ n1_ n2_ n3_ n4_
  refine start_ (n := 9) (S := fun w' => w'.cell? ⟨gb186, 0, none⟩ = some (.int .i64 a1_0) ∧ w'.cell? ⟨gb186, 1, none⟩ = some (.int .i64 a1_1)) (ds := []) #[false, false, false, false, false, false, false, false, false] (by kernel_rfl) rfl rfl ⟨(blk_cell BK186.out 0).trans rfl, (blk_cell BK186.out 1).trans rfl⟩ (fun hHeld => ?_); refine with_tabW perm_parts.tab1 perm_parts.bits1 (fun HT_ HW_ => ?_)
  generalize w93.drew = w94 at BK185 BK186 BK187 BK188 HB hHeld ⊢
  refine take_ (i := 1) (N := some 13) (v := ?_) (a' := ?_) #[false, true, false, false, false, false, false, false, false] rfl rfl (take_ofW HT_.out HW_.out (by kernel_rfl)) (fun _ _ _ h => h) (Or.inl ⟨by rfl, ?_⟩) hHeld ?_ ?_
  rotate_left
  ·rintro w' ⟨s0, s1⟩
   go_simp
   with_reducible rfl
  rotate_left
  ·simp only [Act.put, List.setIfInBounds_toArray, List.set_cons_zero, List.set_cons_succ, i64_w, i32_w]
   rfl
  refine join_ (σ := Nat) 2 #[true, true, true, true, true, true, true, false, false] (fun s_ => [(12, .agg #[.int .i64 t189, .int .i64 t190]), (14, .tuple #[.agg #[.int .i64 t191, .int .i64 t192], .int .i64 t193]), (7, .pointer (some ⟨s_, 0, none⟩)), (11, .tuple #[.agg #[.int .i64 t191, .int .i64 t192], .int .i64 t193]), (15, .agg #[.int .i64 t191, .int .i64 t192]), (16, .int .i64 t193)]) (fun s_ w' => (w'.cell? ⟨gb186, 0, none⟩ = some (.int .i64 a1_0) ∧ w'.cell? ⟨gb186, 1, none⟩ = some (.int .i64 a1_1)) ∧ (w'.heap[gb185]? = some (.cells #[.int .i64 a0_0, .int .i64 a0_1] 23 (0, 0))) ∧ (w'.heap[gb186]? = some (.cells #[.int .i64 a1_0, .int .i64 a1_1] 23 (0, 0))) ∧ (w'.heap[gb187]? = some (.cells #[.int .i64 0, .int .i64 0] 23 (0, 0))) ∧ (w'.heap[gb188]? = some (.cells #[.int .i64 0, .int .i64 0] 23 (0, 0))) ∧ (w'.heap[s_]? = some (.cells #[.int .i64 0, .int .i64 0] 23 (0, 0))) ∧ (w.heap.size ≤ s_) ∧ (w.heap.size ≤ s_) ∧ (gb185 ≠ s_) ∧ (s_ ≠ gb185) ∧ (gb186 ≠ s_) ∧ (s_ ≠ gb186) ∧ (gb187 ≠ s_) ∧ (s_ ≠ gb187) ∧ (gb188 ≠ s_) ∧ (s_ ≠ gb188) ∧ (Below w.heap.size w w')) ?_ ?_
  rotate_left
  ·intro hCont
   refine two_ (i := 0) (j := 6) (Ni := some 12) (Nj := some 7) #[true, true, false, false, false, false, false, false, false] #[false, true, false, false, false, false, true, false, false] rfl rfl rfl rfl (two_of HT_.out (by kernel_rfl)) (by decide) (by decide) (fun K hK => ?_) (fun K hK => ?_)
   ·skip
    refine goes_ Try.func37 (by kernel_rfl) rfl #[] (by rfl) rfl rfl (by (try simp only [List.map_toArray, List.map_cons, List.map_nil]); first | done | rfl | (simp only [List.length_drop, List.length_take]; rfl)) ?_
    with_reducible refine (perm_one.calls  t189 t190 _ A3.out).mono ?_
    rintro e w95 ⟨rfl, hb⟩
    refine ⟨_, rfl, ?_⟩
    have n0_ := Aside0.mk (blk_below (g := gb185) (o := .cells #[.int .i64 a0_0, .int .i64 a0_1] 23 (0, 0)) (by (with_reducible repeat (first | apply blk_drewN | apply blk_drew | apply blk_alloc)); exact BK185.out) hb)
    have n1_ := Aside0.mk (blk_below (g := gb186) (o := .cells #[.int .i64 a1_0, .int .i64 a1_1] 23 (0, 0)) (by (with_reducible repeat (first | apply blk_drewN | apply blk_drew | apply blk_alloc)); exact BK186.out) hb)
    have n2_ := Aside0.mk (blk_below (g := gb187) (o := .cells #[.int .i64 0, .int .i64 0] 23 (0, 0)) (by (with_reducible repeat (first | apply blk_drewN | apply blk_drew | apply blk_alloc)); exact BK187.out) hb)
    have n3_ := Aside0.mk (blk_below (g := gb188) (o := .cells #[.int .i64 0, .int .i64 0] 23 (0, 0)) (by (with_reducible repeat (first | apply blk_drewN | apply blk_drew | apply blk_alloc)); exact BK188.out) hb)
    have n4_ := Aside0.mk (below_step (by repeat (first | (with_reducible first | exact HB.out | apply below_alloc | apply pw_below_drewN | apply below_drew1 | refine below_set ?_ GE185.out | refine below_set ?_ GE186.out | refine below_set ?_ GE187.out | refine below_set ?_ GE188.out) | exact HB.out)) hb)
    clear BK185
    clear BK186
    clear BK187
    clear BK188
    clear HB
    have BK185 := n0_
    have BK186 := n1_
    have BK187 := n2_
    have BK188 := n3_
    have HB := n4_
    clear n0_ n1_ n2_ n3_ n4_
    (try clear hb)
    (try clear hb2)
    (try clear hk)
    (try clear hi)
    refine hK.out _ _ ⟨(blk_cell BK186.out 0).trans rfl, (blk_cell BK186.out 1).trans rfl⟩ (fun hHeld => ?_)
    clear hK K
    refine norm_ (a' := ?_) ?_ ?_
    rotate_left
    ·show Act.put _ (some 12) _ = _
     simp only [Act.put, List.setIfInBounds_toArray, List.set_cons_zero, List.set_cons_succ, i64_w, i32_w]
     rfl
    refine two_ (i := 2) (j := 6) (Ni := some 14) (Nj := some 7) #[true, true, true, false, false, false, false, false, false] #[true, true, false, false, false, false, true, false, false] rfl rfl rfl rfl (two_of HT_.out (by kernel_rfl)) (by decide) (by decide) (fun K hK => ?_) (fun K hK => ?_)
    ·skip
     refine goes_ Try.func18 (by kernel_rfl) rfl #[.agg #[.int .i64 t189, .int .i64 t190], .agg #[.int .i64 a1_0, .int .i64 a1_1]] (by rfl) rfl rfl (by (try simp only [List.map_toArray, List.map_cons, List.map_nil]); first | done | rfl | (simp only [List.length_drop, List.length_take]; rfl)) ?_
     with_reducible refine (rat_Sub.calls k t189 t190 a1_0 a1_1 t191 t192 t193 _ A4.out).mono ?_
     rintro e w96 ⟨rfl, hb⟩
     refine ⟨_, rfl, ?_⟩
     have n0_ := Aside0.mk (blk_below (g := gb185) (o := .cells #[.int .i64 a0_0, .int .i64 a0_1] 23 (0, 0)) (by (with_reducible repeat (first | apply blk_drewN | apply blk_drew | apply blk_alloc)); exact BK185.out) hb)
     have n1_ := Aside0.mk (blk_below (g := gb186) (o := .cells #[.int .i64 a1_0, .int .i64 a1_1] 23 (0, 0)) (by (with_reducible repeat (first | apply blk_drewN | apply blk_drew | apply blk_alloc)); exact BK186.out) hb)
     have n2_ := Aside0.mk (blk_below (g := gb187) (o := .cells #[.int .i64 0, .int .i64 0] 23 (0, 0)) (by (with_reducible repeat (first | apply blk_drewN | apply blk_drew | apply blk_alloc)); exact BK187.out) hb)
     have n3_ := Aside0.mk (blk_below (g := gb188) (o := .cells #[.int .i64 0, .int .i64 0] 23 (0, 0)) (by (with_reducible repeat (first | apply blk_drewN | apply blk_drew | apply blk_alloc)); exact BK188.out) hb)
     have n4_ := Aside0.mk (below_step (by repeat (first | (with_reducible first | exact HB.out | apply below_alloc | apply pw_below_drewN | apply below_drew1 | refine below_set ?_ GE185.out | refine below_set ?_ GE186.out | refine below_set ?_ GE187.out | refine below_set ?_ GE188.out) | exact HB.out)) hb)
     clear BK185
     clear BK186
     clear BK187
     clear BK188
     clear HB
     have BK185 := n0_
     have BK186 := n1_
     have BK187 := n2_
     have BK188 := n3_
     have HB := n4_
     clear n0_ n1_ n2_ n3_ n4_
     (try clear hb)
     (try clear hb2)
     (try clear hk)
     (try clear hi)
     refine hK.out _ _ ⟨(blk_cell BK186.out 0).trans rfl, (blk_cell BK186.out 1).trans rfl⟩ (fun hHeld => ?_)
     clear hK K
     refine norm_ (a' := ?_) ?_ ?_
     rotate_left
     ·show Act.put _ (some 14) _ = _
      simp only [Act.put, List.setIfInBounds_toArray, List.set_cons_zero, List.set_cons_succ, i64_w, i32_w]
      rfl
     refine pure_ (i := 3) (N := some 11) (v := ?_) (a' := ?_) #[true, true, true, true, false, false, false, false, false] rfl rfl (any_of HT_.out (by kernel_rfl)) (fun _ _ _ h => h) (Or.inl ⟨by rfl, ?_⟩) ?_ ?_
     rotate_left
     ·intro w'
      go_simp
      with_reducible rfl
     rotate_left
     ·simp only [Act.put, List.setIfInBounds_toArray, List.set_cons_zero, List.set_cons_succ, i64_w, i32_w]
      rfl
     refine pure_ (i := 4) (N := some 15) (v := ?_) (a' := ?_) #[true, true, true, true, true, false, false, false, false] rfl rfl (any_of HT_.out (by kernel_rfl)) (fun _ _ _ h => h) (Or.inl ⟨by rfl, ?_⟩) ?_ ?_
     rotate_left
     ·intro w'
      go_simp
      with_reducible rfl
     rotate_left
     ·simp only [Act.put, List.setIfInBounds_toArray, List.set_cons_zero, List.set_cons_succ, i64_w, i32_w]
      rfl
     refine pure_ (i := 5) (N := some 16) (v := ?_) (a' := ?_) #[true, true, true, true, true, true, false, false, false] rfl rfl (any_of HT_.out (by kernel_rfl)) (fun _ _ _ h => h) (Or.inl ⟨by rfl, ?_⟩) ?_ ?_
     rotate_left
     ·intro w'
      go_simp
      with_reducible rfl
     rotate_left
     ·simp only [Act.put, List.setIfInBounds_toArray, List.set_cons_zero, List.set_cons_succ, i64_w, i32_w]
      rfl
     refine one_ (i := 6) (N := some 7) #[true, true, true, true, true, true, true, false, false] rfl rfl (one_of HT_.out (by kernel_rfl)) (by decide) (fun K hK => ?_)
     refine box_step ?hg (N := 7) ?hd (cs := #[.int .i64 0, .int .i64 0]) (t := 23) ?hr ?_; (case hd => rfl); (case hg => rfl); (case hr => first | (go_simp; done) | (go_simp; rfl))
     intro gb194 hg w97 hbox hb
     have n0_ := Aside0.mk (blk_below (g := gb185) (o := .cells #[.int .i64 a0_0, .int .i64 a0_1] 23 (0, 0)) (by (with_reducible repeat (first | apply blk_drewN | apply blk_drew | apply blk_alloc)); exact BK185.out) hb)
     have n1_ := Aside0.mk (blk_below (g := gb186) (o := .cells #[.int .i64 a1_0, .int .i64 a1_1] 23 (0, 0)) (by (with_reducible repeat (first | apply blk_drewN | apply blk_drew | apply blk_alloc)); exact BK186.out) hb)
     have n2_ := Aside0.mk (blk_below (g := gb187) (o := .cells #[.int .i64 0, .int .i64 0] 23 (0, 0)) (by (with_reducible repeat (first | apply blk_drewN | apply blk_drew | apply blk_alloc)); exact BK187.out) hb)
     have n3_ := Aside0.mk (blk_below (g := gb188) (o := .cells #[.int .i64 0, .int .i64 0] 23 (0, 0)) (by (with_reducible repeat (first | apply blk_drewN | apply blk_drew | apply blk_alloc)); exact BK188.out) hb)
     have n4_ := Aside0.mk (below_step (by repeat (first | (with_reducible first | exact HB.out | apply below_alloc | apply pw_below_drewN | apply below_drew1 | refine below_set ?_ GE185.out | refine below_set ?_ GE186.out | refine below_set ?_ GE187.out | refine below_set ?_ GE188.out) | exact HB.out)) hb)
     have n5_ := Aside0.mk (hbox)
     have n6_ := Aside0.mk ((by rw [hg]; exact (below_size (by repeat (first | (with_reducible first | exact HB.out | apply below_alloc | apply pw_below_drewN | apply below_drew1 | refine below_set ?_ GE185.out | refine below_set ?_ GE186.out | refine below_set ?_ GE187.out | refine below_set ?_ GE188.out) | exact HB.out))) : w.heap.size ≤ gb194))
     have n7_ := Aside0.mk ((by rw [hg]; exact (below_size (by repeat (first | (with_reducible first | exact HB.out | apply below_alloc | apply pw_below_drewN | apply below_drew1 | refine below_set ?_ GE185.out | refine below_set ?_ GE186.out | refine below_set ?_ GE187.out | refine below_set ?_ GE188.out) | exact HB.out))) : w.heap.size ≤ gb194))
     have n8_ := Aside0.mk ((by rw [hg]; exact Nat.ne_of_lt (blk_lt (g := gb185) (o := .cells #[.int .i64 a0_0, .int .i64 a0_1] 23 (0, 0)) (by (with_reducible repeat (first | apply blk_drewN | apply blk_drew | apply blk_alloc)); exact BK185.out)) : gb185 ≠ gb194))
     have n9_ := Aside0.mk ((by rw [hg]; exact Nat.ne_of_gt (blk_lt (g := gb185) (o := .cells #[.int .i64 a0_0, .int .i64 a0_1] 23 (0, 0)) (by (with_reducible repeat (first | apply blk_drewN | apply blk_drew | apply blk_alloc)); exact BK185.out)) : gb194 ≠ gb185))
     have n10_ := Aside0.mk ((by rw [hg]; exact Nat.ne_of_lt (blk_lt (g := gb186) (o := .cells #[.int .i64 a1_0, .int .i64 a1_1] 23 (0, 0)) (by (with_reducible repeat (first | apply blk_drewN | apply blk_drew | apply blk_alloc)); exact BK186.out)) : gb186 ≠ gb194))
     have n11_ := Aside0.mk ((by rw [hg]; exact Nat.ne_of_gt (blk_lt (g := gb186) (o := .cells #[.int .i64 a1_0, .int .i64 a1_1] 23 (0, 0)) (by (with_reducible repeat (first | apply blk_drewN | apply blk_drew | apply blk_alloc)); exact BK186.out)) : gb194 ≠ gb186))
     have n12_ := Aside0.mk ((by rw [hg]; exact Nat.ne_of_lt (blk_lt (g := gb187) (o := .cells #[.int .i64 0, .int .i64 0] 23 (0, 0)) (by (with_reducible repeat (first | apply blk_drewN | apply blk_drew | apply blk_alloc)); exact BK187.out)) : gb187 ≠ gb194))
     have n13_ := Aside0.mk ((by rw [hg]; exact Nat.ne_of_gt (blk_lt (g := gb187) (o := .cells #[.int .i64 0, .int .i64 0] 23 (0, 0)) (by (with_reducible repeat (first | apply blk_drewN | apply blk_drew | apply blk_alloc)); exact BK187.out)) : gb194 ≠ gb187))
     have n14_ := Aside0.mk ((by rw [hg]; exact Nat.ne_of_lt (blk_lt (g := gb188) (o := .cells #[.int .i64 0, .int .i64 0] 23 (0, 0)) (by (with_reducible repeat (first | apply blk_drewN | apply blk_drew | apply blk_alloc)); exact BK188.out)) : gb188 ≠ gb194))
     have n15_ := Aside0.mk ((by rw [hg]; exact Nat.ne_of_gt (blk_lt (g := gb188) (o := .cells #[.int .i64 0, .int .i64 0] 23 (0, 0)) (by (with_reducible repeat (first | apply blk_drewN | apply blk_drew | apply blk_alloc)); exact BK188.out)) : gb194 ≠ gb188))
     clear BK185
     clear BK186
     clear BK187
     clear BK188
     clear HB
     have BK185 := n0_
     have BK186 := n1_
     have BK187 := n2_
     have BK188 := n3_
     have HB := n4_
     have BK194 := n5_
     have GW194 := n6_
     have GE194 := n7_
     have NB185_194 := n8_
     have NB194_185 := n9_
     have NB186_194 := n10_
     have NB194_186 := n11_
     have NB187_194 := n12_
     have NB194_187 := n13_
     have NB188_194 := n14_
     have NB194_188 := n15_
     clear n0_ n1_ n2_ n3_ n4_ n5_ n6_ n7_ n8_ n9_ n10_ n11_ n12_ n13_ n14_ n15_
     clear hb hbox hg
     refine hK.out _ _ ⟨(blk_cell BK186.out 0).trans rfl, (blk_cell BK186.out 1).trans rfl⟩ (fun hHeld => ?_)
     clear hK K
     refine norm_ (a' := ?_) ?_ ?_
     rotate_left
     ·show Act.put _ (some 7) _ = _
      simp only [Act.put, List.setIfInBounds_toArray, List.set_cons_zero, List.set_cons_succ, i64_w, i32_w]
      rfl
     exact norm_ (by simp only [putAll, Act.put, List.setIfInBounds_toArray, List.set_cons_zero, List.set_cons_succ]) (hCont (gb194) _ ⟨hHeld, (by (with_reducible repeat (first | apply blk_drewN | apply blk_drew | apply blk_alloc)); exact BK185.out), (by (with_reducible repeat (first | apply blk_drewN | apply blk_drew | apply blk_alloc)); exact BK186.out), (by (with_reducible repeat (first | apply blk_drewN | apply blk_drew | apply blk_alloc)); exact BK187.out), (by (with_reducible repeat (first | apply blk_drewN | apply blk_drew | apply blk_alloc)); exact BK188.out), (by (with_reducible repeat (first | apply blk_drewN | apply blk_drew | apply blk_alloc)); exact BK194.out), GW194.out, GE194.out, NB185_194.out, NB194_185.out, NB186_194.out, NB194_186.out, NB187_194.out, NB194_187.out, NB188_194.out, NB194_188.out, (by repeat (first | (with_reducible first | exact HB.out | apply below_alloc | apply pw_below_drewN | apply below_drew1 | refine below_set ?_ GE185.out | refine below_set ?_ GE186.out | refine below_set ?_ GE187.out | refine below_set ?_ GE188.out | refine below_set ?_ GE194.out) | exact HB.out))⟩)
    ·skip
     refine box_step ?hg (N := 7) ?hd (cs := #[.int .i64 0, .int .i64 0]) (t := 23) ?hr ?_; (case hd => rfl); (case hg => rfl); (case hr => first | (go_simp; done) | (go_simp; rfl))
     intro gb194 hg w96 hbox hb
     have n0_ := Aside0.mk (blk_below (g := gb185) (o := .cells #[.int .i64 a0_0, .int .i64 a0_1] 23 (0, 0)) (by (with_reducible repeat (first | apply blk_drewN | apply blk_drew | apply blk_alloc)); exact BK185.out) hb)
     have n1_ := Aside0.mk (blk_below (g := gb186) (o := .cells #[.int .i64 a1_0, .int .i64 a1_1] 23 (0, 0)) (by (with_reducible repeat (first | apply blk_drewN | apply blk_drew | apply blk_alloc)); exact BK186.out) hb)
     have n2_ := Aside0.mk (blk_below (g := gb187) (o := .cells #[.int .i64 0, .int .i64 0] 23 (0, 0)) (by (with_reducible repeat (first | apply blk_drewN | apply blk_drew | apply blk_alloc)); exact BK187.out) hb)
     have n3_ := Aside0.mk (blk_below (g := gb188) (o := .cells #[.int .i64 0, .int .i64 0] 23 (0, 0)) (by (with_reducible repeat (first | apply blk_drewN | apply blk_drew | apply blk_alloc)); exact BK188.out) hb)
     have n4_ := Aside0.mk (below_step (by repeat (first | (with_reducible first | exact HB.out | apply below_alloc | apply pw_below_drewN | apply below_drew1 | refine below_set ?_ GE185.out | refine below_set ?_ GE186.out | refine below_set ?_ GE187.out | refine below_set ?_ GE188.out) | exact HB.out)) hb)
     have n5_ := Aside0.mk (hbox)
     have n6_ := Aside0.mk ((by rw [hg]; exact (below_size (by repeat (first | (with_reducible first | exact HB.out | apply below_alloc | apply pw_below_drewN | apply below_drew1 | refine below_set ?_ GE185.out | refine below_set ?_ GE186.out | refine below_set ?_ GE187.out | refine below_set ?_ GE188.out) | exact HB.out))) : w.heap.size ≤ gb194))
     have n7_ := Aside0.mk ((by rw [hg]; exact (below_size (by repeat (first | (with_reducible first | exact HB.out | apply below_alloc | apply pw_below_drewN | apply below_drew1 | refine below_set ?_ GE185.out | refine below_set ?_ GE186.out | refine below_set ?_ GE187.out | refine below_set ?_ GE188.out) | exact HB.out))) : w.heap.size ≤ gb194))
     have n8_ := Aside0.mk ((by rw [hg]; exact Nat.ne_of_lt (blk_lt (g := gb185) (o := .cells #[.int .i64 a0_0, .int .i64 a0_1] 23 (0, 0)) (by (with_reducible repeat (first | apply blk_drewN | apply blk_drew | apply blk_alloc)); exact BK185.out)) : gb185 ≠ gb194))
     have n9_ := Aside0.mk ((by rw [hg]; exact Nat.ne_of_gt (blk_lt (g := gb185) (o := .cells #[.int .i64 a0_0, .int .i64 a0_1] 23 (0, 0)) (by (with_reducible repeat (first | apply blk_drewN | apply blk_drew | apply blk_alloc)); exact BK185.out)) : gb194 ≠ gb185))
     have n10_ := Aside0.mk ((by rw [hg]; exact Nat.ne_of_lt (blk_lt (g := gb186) (o := .cells #[.int .i64 a1_0, .int .i64 a1_1] 23 (0, 0)) (by (with_reducible repeat (first | apply blk_drewN | apply blk_drew | apply blk_alloc)); exact BK186.out)) : gb186 ≠ gb194))
     have n11_ := Aside0.mk ((by rw [hg]; exact Nat.ne_of_gt (blk_lt (g := gb186) (o := .cells #[.int .i64 a1_0, .int .i64 a1_1] 23 (0, 0)) (by (with_reducible repeat (first | apply blk_drewN | apply blk_drew | apply blk_alloc)); exact BK186.out)) : gb194 ≠ gb186))
     have n12_ := Aside0.mk ((by rw [hg]; exact Nat.ne_of_lt (blk_lt (g := gb187) (o := .cells #[.int .i64 0, .int .i64 0] 23 (0, 0)) (by (with_reducible repeat (first | apply blk_drewN | apply blk_drew | apply blk_alloc)); exact BK187.out)) : gb187 ≠ gb194))
     have n13_ := Aside0.mk ((by rw [hg]; exact Nat.ne_of_gt (blk_lt (g := gb187) (o := .cells #[.int .i64 0, .int .i64 0] 23 (0, 0)) (by (with_reducible repeat (first | apply blk_drewN | apply blk_drew | apply blk_alloc)); exact BK187.out)) : gb194 ≠ gb187))
     have n14_ := Aside0.mk ((by rw [hg]; exact Nat.ne_of_lt (blk_lt (g := gb188) (o := .cells #[.int .i64 0, .int .i64 0] 23 (0, 0)) (by (with_reducible repeat (first | apply blk_drewN | apply blk_drew | apply blk_alloc)); exact BK188.out)) : gb188 ≠ gb194))
     have n15_ := Aside0.mk ((by rw [hg]; exact Nat.ne_of_gt (blk_lt (g := gb188) (o := .cells #[.int .i64 0, .int .i64 0] 23 (0, 0)) (by (with_reducible repeat (first | apply blk_drewN | apply blk_drew | apply blk_alloc)); exact BK188.out)) : gb194 ≠ gb188))
     clear BK185
     clear BK186
     clear BK187
     clear BK188
     clear HB
     have BK185 := n0_
     have BK186 := n1_
     have BK187 := n2_
     have BK188 := n3_
     have HB := n4_
     have BK194 := n5_
     have GW194 := n6_
     have GE194 := n7_
     have NB185_194 := n8_
     have NB194_185 := n9_
     have NB186_194 := n10_
     have NB194_186 := n11_
     have NB187_194 := n12_
     have NB194_187 := n13_
     have NB188_194 := n14_
     have NB194_188 := n15_
     clear n0_ n1_ n2_ n3_ n4_ n5_ n6_ n7_ n8_ n9_ n10_ n11_ n12_ n13_ n14_ n15_
     clear hb hbox hg
     refine hK.out _ _ ⟨(blk_cell BK186.out 0).trans rfl, (blk_cell BK186.out 1).trans rfl⟩ (fun hHeld => ?_)
     clear hK K
     refine norm_ (a' := ?_) ?_ ?_
     rotate_left
     ·show Act.put _ (some 7) _ = _
      simp only [Act.put, List.setIfInBounds_toArray, List.set_cons_zero, List.set_cons_succ, i64_w, i32_w]
      rfl
     refine one_ (i := 2) (N := some 14) #[true, true, true, false, false, false, true, false, false] rfl rfl (one_of HT_.out (by kernel_rfl)) (by decide) (fun K hK => ?_)
     refine goes_ Try.func18 (by kernel_rfl) rfl #[.agg #[.int .i64 t189, .int .i64 t190], .agg #[.int .i64 a1_0, .int .i64 a1_1]] (by rfl) rfl rfl (by (try simp only [List.map_toArray, List.map_cons, List.map_nil]); first | done | rfl | (simp only [List.length_drop, List.length_take]; rfl)) ?_
     with_reducible refine (rat_Sub.calls k t189 t190 a1_0 a1_1 t191 t192 t193 _ A4.out).mono ?_
     rintro e w97 ⟨rfl, hb⟩
     refine ⟨_, rfl, ?_⟩
     have n0_ := Aside0.mk (blk_below (g := gb185) (o := .cells #[.int .i64 a0_0, .int .i64 a0_1] 23 (0, 0)) (by (with_reducible repeat (first | apply blk_drewN | apply blk_drew | apply blk_alloc)); exact BK185.out) hb)
     have n1_ := Aside0.mk (blk_below (g := gb186) (o := .cells #[.int .i64 a1_0, .int .i64 a1_1] 23 (0, 0)) (by (with_reducible repeat (first | apply blk_drewN | apply blk_drew | apply blk_alloc)); exact BK186.out) hb)
     have n2_ := Aside0.mk (blk_below (g := gb187) (o := .cells #[.int .i64 0, .int .i64 0] 23 (0, 0)) (by (with_reducible repeat (first | apply blk_drewN | apply blk_drew | apply blk_alloc)); exact BK187.out) hb)
     have n3_ := Aside0.mk (blk_below (g := gb188) (o := .cells #[.int .i64 0, .int .i64 0] 23 (0, 0)) (by (with_reducible repeat (first | apply blk_drewN | apply blk_drew | apply blk_alloc)); exact BK188.out) hb)
     have n4_ := Aside0.mk (blk_below (g := gb194) (o := .cells #[.int .i64 0, .int .i64 0] 23 (0, 0)) (by (with_reducible repeat (first | apply blk_drewN | apply blk_drew | apply blk_alloc)); exact BK194.out) hb)
     have n5_ := Aside0.mk (below_step (by repeat (first | (with_reducible first | exact HB.out | apply below_alloc | apply pw_below_drewN | apply below_drew1 | refine below_set ?_ GE185.out | refine below_set ?_ GE186.out | refine below_set ?_ GE187.out | refine below_set ?_ GE188.out | refine below_set ?_ GE194.out) | exact HB.out)) hb)
     clear BK185
     clear BK186
     clear BK187
     clear BK188
     clear BK194
     clear HB
     have BK185 := n0_
     have BK186 := n1_
     have BK187 := n2_
     have BK188 := n3_
     have BK194 := n4_
     have HB := n5_
     clear n0_ n1_ n2_ n3_ n4_ n5_
     (try clear hb)
     (try clear hb2)
     (try clear hk)
     (try clear hi)
     refine hK.out _ _ ⟨(blk_cell BK186.out 0).trans rfl, (blk_cell BK186.out 1).trans rfl⟩ (fun hHeld => ?_)
     clear hK K
     refine norm_ (a' := ?_) ?_ ?_
     rotate_left
     ·show Act.put _ (some 14) _ = _
      simp only [Act.put, List.setIfInBounds_toArray, List.set_cons_zero, List.set_cons_succ, i64_w, i32_w]
      rfl
     refine pure_ (i := 3) (N := some 11) (v := ?_) (a' := ?_) #[true, true, true, true, false, false, true, false, false] rfl rfl (any_of HT_.out (by kernel_rfl)) (fun _ _ _ h => h) (Or.inl ⟨by rfl, ?_⟩) ?_ ?_
     rotate_left
     ·intro w'
      go_simp
      with_reducible rfl
     rotate_left
     ·simp only [Act.put, List.setIfInBounds_toArray, List.set_cons_zero, List.set_cons_succ, i64_w, i32_w]
      rfl
     refine pure_ (i := 4) (N := some 15) (v := ?_) (a' := ?_) #[true, true, true, true, true, false, true, false, false] rfl rfl (any_of HT_.out (by kernel_rfl)) (fun _ _ _ h => h) (Or.inl ⟨by rfl, ?_⟩) ?_ ?_
     rotate_left
     ·intro w'
      go_simp
      with_reducible rfl
     rotate_left
     ·simp only [Act.put, List.setIfInBounds_toArray, List.set_cons_zero, List.set_cons_succ, i64_w, i32_w]
      rfl
     refine pure_ (i := 5) (N := some 16) (v := ?_) (a' := ?_) #[true, true, true, true, true, true, true, false, false] rfl rfl (any_of HT_.out (by kernel_rfl)) (fun _ _ _ h => h) (Or.inl ⟨by rfl, ?_⟩) ?_ ?_
     rotate_left
     ·intro w'
      go_simp
      with_reducible rfl
     rotate_left
     ·simp only [Act.put, List.setIfInBounds_toArray, List.set_cons_zero, List.set_cons_succ, i64_w, i32_w]
      rfl
     exact norm_ (by simp only [putAll, Act.put, List.setIfInBounds_toArray, List.set_cons_zero, List.set_cons_succ]) (hCont (gb194) _ ⟨hHeld, (by (with_reducible repeat (first | apply blk_drewN | apply blk_drew | apply blk_alloc)); exact BK185.out), (by (with_reducible repeat (first | apply blk_drewN | apply blk_drew | apply blk_alloc)); exact BK186.out), (by (with_reducible repeat (first | apply blk_drewN | apply blk_drew | apply blk_alloc)); exact BK187.out), (by (with_reducible repeat (first | apply blk_drewN | apply blk_drew | apply blk_alloc)); exact BK188.out), (by (with_reducible repeat (first | apply blk_drewN | apply blk_drew | apply blk_alloc)); exact BK194.out), GW194.out, GE194.out, NB185_194.out, NB194_185.out, NB186_194.out, NB194_186.out, NB187_194.out, NB194_187.out, NB188_194.out, NB194_188.out, (by repeat (first | (with_reducible first | exact HB.out | apply below_alloc | apply pw_below_drewN | apply below_drew1 | refine below_set ?_ GE185.out | refine below_set ?_ GE186.out | refine below_set ?_ GE187.out | refine below_set ?_ GE188.out | refine below_set ?_ GE194.out) | exact HB.out))⟩)
   ·skip
    refine box_step ?hg (N := 7) ?hd (cs := #[.int .i64 0, .int .i64 0]) (t := 23) ?hr ?_; (case hd => rfl); (case hg => rfl); (case hr => first | (go_simp; done) | (go_simp; rfl))
    intro gb194 hg w95 hbox hb
    have n0_ := Aside0.mk (blk_below (g := gb185) (o := .cells #[.int .i64 a0_0, .int .i64 a0_1] 23 (0, 0)) (by (with_reducible repeat (first | apply blk_drewN | apply blk_drew | apply blk_alloc)); exact BK185.out) hb)
    have n1_ := Aside0.mk (blk_below (g := gb186) (o := .cells #[.int .i64 a1_0, .int .i64 a1_1] 23 (0, 0)) (by (with_reducible repeat (first | apply blk_drewN | apply blk_drew | apply blk_alloc)); exact BK186.out) hb)
    have n2_ := Aside0.mk (blk_below (g := gb187) (o := .cells #[.int .i64 0, .int .i64 0] 23 (0, 0)) (by (with_reducible repeat (first | apply blk_drewN | apply blk_drew | apply blk_alloc)); exact BK187.out) hb)
    have n3_ := Aside0.mk (blk_below (g := gb188) (o := .cells #[.int .i64 0, .int .i64 0] 23 (0, 0)) (by (with_reducible repeat (first | apply blk_drewN | apply blk_drew | apply blk_alloc)); exact BK188.out) hb)
    have n4_ := Aside0.mk (below_step (by repeat (first | (with_reducible first | exact HB.out | apply below_alloc | apply pw_below_drewN | apply below_drew1 | refine below_set ?_ GE185.out | refine below_set ?_ GE186.out | refine below_set ?_ GE187.out | refine below_set ?_ GE188.out) | exact HB.out)) hb)
    have n5_ := Aside0.mk (hbox)
    have n6_ := Aside0.mk ((by rw [hg]; exact (below_size (by repeat (first | (with_reducible first | exact HB.out | apply below_alloc | apply pw_below_drewN | apply below_drew1 | refine below_set ?_ GE185.out | refine below_set ?_ GE186.out | refine below_set ?_ GE187.out | refine below_set ?_ GE188.out) | exact HB.out))) : w.heap.size ≤ gb194))
    have n7_ := Aside0.mk ((by rw [hg]; exact (below_size (by repeat (first | (with_reducible first | exact HB.out | apply below_alloc | apply pw_below_drewN | apply below_drew1 | refine below_set ?_ GE185.out | refine below_set ?_ GE186.out | refine below_set ?_ GE187.out | refine below_set ?_ GE188.out) | exact HB.out))) : w.heap.size ≤ gb194))
    have n8_ := Aside0.mk ((by rw [hg]; exact Nat.ne_of_lt (blk_lt (g := gb185) (o := .cells #[.int .i64 a0_0, .int .i64 a0_1] 23 (0, 0)) (by (with_reducible repeat (first | apply blk_drewN | apply blk_drew | apply blk_alloc)); exact BK185.out)) : gb185 ≠ gb194))
    have n9_ := Aside0.mk ((by rw [hg]; exact Nat.ne_of_gt (blk_lt (g := gb185) (o := .cells #[.int .i64 a0_0, .int .i64 a0_1] 23 (0, 0)) (by (with_reducible repeat (first | apply blk_drewN | apply blk_drew | apply blk_alloc)); exact BK185.out)) : gb194 ≠ gb185))
    have n10_ := Aside0.mk ((by rw [hg]; exact Nat.ne_of_lt (blk_lt (g := gb186) (o := .cells #[.int .i64 a1_0, .int .i64 a1_1] 23 (0, 0)) (by (with_reducible repeat (first | apply blk_drewN | apply blk_drew | apply blk_alloc)); exact BK186.out)) : gb186 ≠ gb194))
    have n11_ := Aside0.mk ((by rw [hg]; exact Nat.ne_of_gt (blk_lt (g := gb186) (o := .cells #[.int .i64 a1_0, .int .i64 a1_1] 23 (0, 0)) (by (with_reducible repeat (first | apply blk_drewN | apply blk_drew | apply blk_alloc)); exact BK186.out)) : gb194 ≠ gb186))
    have n12_ := Aside0.mk ((by rw [hg]; exact Nat.ne_of_lt (blk_lt (g := gb187) (o := .cells #[.int .i64 0, .int .i64 0] 23 (0, 0)) (by (with_reducible repeat (first | apply blk_drewN | apply blk_drew | apply blk_alloc)); exact BK187.out)) : gb187 ≠ gb194))
    have n13_ := Aside0.mk ((by rw [hg]; exact Nat.ne_of_gt (blk_lt (g := gb187) (o := .cells #[.int .i64 0, .int .i64 0] 23 (0, 0)) (by (with_reducible repeat (first | apply blk_drewN | apply blk_drew | apply blk_alloc)); exact BK187.out)) : gb194 ≠ gb187))
    have n14_ := Aside0.mk ((by rw [hg]; exact Nat.ne_of_lt (blk_lt (g := gb188) (o := .cells #[.int .i64 0, .int .i64 0] 23 (0, 0)) (by (with_reducible repeat (first | apply blk_drewN | apply blk_drew | apply blk_alloc)); exact BK188.out)) : gb188 ≠ gb194))
    have n15_ := Aside0.mk ((by rw [hg]; exact Nat.ne_of_gt (blk_lt (g := gb188) (o := .cells #[.int .i64 0, .int .i64 0] 23 (0, 0)) (by (with_reducible repeat (first | apply blk_drewN | apply blk_drew | apply blk_alloc)); exact BK188.out)) : gb194 ≠ gb188))
    clear BK185
    clear BK186
    clear BK187
    clear BK188
    clear HB
    have BK185 := n0_
    have BK186 := n1_
    have BK187 := n2_
    have BK188 := n3_
    have HB := n4_
    have BK194 := n5_
    have GW194 := n6_
    have GE194 := n7_
    have NB185_194 := n8_
    have NB194_185 := n9_
    have NB186_194 := n10_
    have NB194_186 := n11_
    have NB187_194 := n12_
    have NB194_187 := n13_
    have NB188_194 := n14_
    have NB194_188 := n15_
    clear n0_ n1_ n2_ n3_ n4_ n5_ n6_ n7_ n8_ n9_ n10_ n11_ n12_ n13_ n14_ n15_
    clear hb hbox hg
    refine hK.out _ _ ⟨(blk_cell BK186.out 0).trans rfl, (blk_cell BK186.out 1).trans rfl⟩ (fun hHeld => ?_)
    clear hK K
    refine norm_ (a' := ?_) ?_ ?_
    rotate_left
    ·show Act.put _ (some 7) _ = _
     simp only [Act.put, List.setIfInBounds_toArray, List.set_cons_zero, List.set_cons_succ, i64_w, i32_w]
     rfl
    refine one_ (i := 0) (N := some 12) #[true, true, false, false, false, false, true, false, false] rfl rfl (one_of HT_.out (by kernel_rfl)) (by decide) (fun K hK => ?_)
    refine goes_ Try.func37 (by kernel_rfl) rfl #[] (by rfl) rfl rfl (by (try simp only [List.map_toArray, List.map_cons, List.map_nil]); first | done | rfl | (simp only [List.length_drop, List.length_take]; rfl)) ?_
    with_reducible refine (perm_one.calls  t189 t190 _ A3.out).mono ?_
    rintro e w96 ⟨rfl, hb⟩
    refine ⟨_, rfl, ?_⟩
    have n0_ := Aside0.mk (blk_below (g := gb185) (o := .cells #[.int .i64 a0_0, .int .i64 a0_1] 23 (0, 0)) (by (with_reducible repeat (first | apply blk_drewN | apply blk_drew | apply blk_alloc)); exact BK185.out) hb)
    have n1_ := Aside0.mk (blk_below (g := gb186) (o := .cells #[.int .i64 a1_0, .int .i64 a1_1] 23 (0, 0)) (by (with_reducible repeat (first | apply blk_drewN | apply blk_drew | apply blk_alloc)); exact BK186.out) hb)
    have n2_ := Aside0.mk (blk_below (g := gb187) (o := .cells #[.int .i64 0, .int .i64 0] 23 (0, 0)) (by (with_reducible repeat (first | apply blk_drewN | apply blk_drew | apply blk_alloc)); exact BK187.out) hb)
    have n3_ := Aside0.mk (blk_below (g := gb188) (o := .cells #[.int .i64 0, .int .i64 0] 23 (0, 0)) (by (with_reducible repeat (first | apply blk_drewN | apply blk_drew | apply blk_alloc)); exact BK188.out) hb)
    have n4_ := Aside0.mk (blk_below (g := gb194) (o := .cells #[.int .i64 0, .int .i64 0] 23 (0, 0)) (by (with_reducible repeat (first | apply blk_drewN | apply blk_drew | apply blk_alloc)); exact BK194.out) hb)
    have n5_ := Aside0.mk (below_step (by repeat (first | (with_reducible first | exact HB.out | apply below_alloc | apply pw_below_drewN | apply below_drew1 | refine below_set ?_ GE185.out | refine below_set ?_ GE186.out | refine below_set ?_ GE187.out | refine below_set ?_ GE188.out | refine below_set ?_ GE194.out) | exact HB.out)) hb)
    clear BK185
    clear BK186
    clear BK187
    clear BK188
    clear BK194
    clear HB
    have BK185 := n0_
    have BK186 := n1_
    have BK187 := n2_
    have BK188 := n3_
    have BK194 := n4_
    have HB := n5_
    clear n0_ n1_ n2_ n3_ n4_ n5_
    (try clear hb)
    (try clear hb2)
    (try clear hk)
    (try clear hi)
    refine hK.out _ _ ⟨(blk_cell BK186.out 0).trans rfl, (blk_cell BK186.out 1).trans rfl⟩ (fun hHeld => ?_)
    clear hK K
    refine norm_ (a' := ?_) ?_ ?_
    rotate_left
    ·show Act.put _ (some 12) _ = _
     simp only [Act.put, List.setIfInBounds_toArray, List.set_cons_zero, List.set_cons_succ, i64_w, i32_w]
     rfl
    refine one_ (i := 2) (N := some 14) #[true, true, true, false, false, false, true, false, false] rfl rfl (one_of HT_.out (by kernel_rfl)) (by decide) (fun K hK => ?_)
    refine goes_ Try.func18 (by kernel_rfl) rfl #[.agg #[.int .i64 t189, .int .i64 t190], .agg #[.int .i64 a1_0, .int .i64 a1_1]] (by rfl) rfl rfl (by (try simp only [List.map_toArray, List.map_cons, List.map_nil]); first | done | rfl | (simp only [List.length_drop, List.length_take]; rfl)) ?_
    with_reducible refine (rat_Sub.calls k t189 t190 a1_0 a1_1 t191 t192 t193 _ A4.out).mono ?_
    rintro e w97 ⟨rfl, hb⟩
    refine ⟨_, rfl, ?_⟩
    have n0_ := Aside0.mk (blk_below (g := gb185) (o := .cells #[.int .i64 a0_0, .int .i64 a0_1] 23 (0, 0)) (by (with_reducible repeat (first | apply blk_drewN | apply blk_drew | apply blk_alloc)); exact BK185.out) hb)
    have n1_ := Aside0.mk (blk_below (g := gb186) (o := .cells #[.int .i64 a1_0, .int .i64 a1_1] 23 (0, 0)) (by (with_reducible repeat (first | apply blk_drewN | apply blk_drew | apply blk_alloc)); exact BK186.out) hb)
    have n2_ := Aside0.mk (blk_below (g := gb187) (o := .cells #[.int .i64 0, .int .i64 0] 23 (0, 0)) (by (with_reducible repeat (first | apply blk_drewN | apply blk_drew | apply blk_alloc)); exact BK187.out) hb)
    have n3_ := Aside0.mk (blk_below (g := gb188) (o := .cells #[.int .i64 0, .int .i64 0] 23 (0, 0)) (by (with_reducible repeat (first | apply blk_drewN | apply blk_drew | apply blk_alloc)); exact BK188.out) hb)
    have n4_ := Aside0.mk (blk_below (g := gb194) (o := .cells #[.int .i64 0, .int .i64 0] 23 (0, 0)) (by (with_reducible repeat (first | apply blk_drewN | apply blk_drew | apply blk_alloc)); exact BK194.out) hb)
    have n5_ := Aside0.mk (below_step (by repeat (first | (with_reducible first | exact HB.out | apply below_alloc | apply pw_below_drewN | apply below_drew1 | refine below_set ?_ GE185.out | refine below_set ?_ GE186.out | refine below_set ?_ GE187.out | refine below_set ?_ GE188.out | refine below_set ?_ GE194.out) | exact HB.out)) hb)
    clear BK185
    clear BK186
    clear BK187
    clear BK188
    clear BK194
    clear HB
    have BK185 := n0_
    have BK186 := n1_
    have BK187 := n2_
    have BK188 := n3_
    have BK194 := n4_
    have HB := n5_
    clear n0_ n1_ n2_ n3_ n4_ n5_
    (try clear hb)
    (try clear hb2)
    (try clear hk)
    (try clear hi)
    refine hK.out _ _ ⟨(blk_cell BK186.out 0).trans rfl, (blk_cell BK186.out 1).trans rfl⟩ (fun hHeld => ?_)
    clear hK K
    refine norm_ (a' := ?_) ?_ ?_
    rotate_left
    ·show Act.put _ (some 14) _ = _
     simp only [Act.put, List.setIfInBounds_toArray, List.set_cons_zero, List.set_cons_succ, i64_w, i32_w]
     rfl
    refine pure_ (i := 3) (N := some 11) (v := ?_) (a' := ?_) #[true, true, true, true, false, false, true, false, false] rfl rfl (any_of HT_.out (by kernel_rfl)) (fun _ _ _ h => h) (Or.inl ⟨by rfl, ?_⟩) ?_ ?_
    rotate_left
    ·intro w'
     go_simp
     with_reducible rfl
    rotate_left
    ·simp only [Act.put, List.setIfInBounds_toArray, List.set_cons_zero, List.set_cons_succ, i64_w, i32_w]
     rfl
    refine pure_ (i := 4) (N := some 15) (v := ?_) (a' := ?_) #[true, true, true, true, true, false, true, false, false] rfl rfl (any_of HT_.out (by kernel_rfl)) (fun _ _ _ h => h) (Or.inl ⟨by rfl, ?_⟩) ?_ ?_
    rotate_left
    ·intro w'
     go_simp
     with_reducible rfl
    rotate_left
    ·simp only [Act.put, List.setIfInBounds_toArray, List.set_cons_zero, List.set_cons_succ, i64_w, i32_w]
     rfl
    refine pure_ (i := 5) (N := some 16) (v := ?_) (a' := ?_) #[true, true, true, true, true, true, true, false, false] rfl rfl (any_of HT_.out (by kernel_rfl)) (fun _ _ _ h => h) (Or.inl ⟨by rfl, ?_⟩) ?_ ?_
    rotate_left
    ·intro w'
     go_simp
     with_reducible rfl
    rotate_left
    ·simp only [Act.put, List.setIfInBounds_toArray, List.set_cons_zero, List.set_cons_succ, i64_w, i32_w]
     rfl
    exact norm_ (by simp only [putAll, Act.put, List.setIfInBounds_toArray, List.set_cons_zero, List.set_cons_succ]) (hCont (gb194) _ ⟨hHeld, (by (with_reducible repeat (first | apply blk_drewN | apply blk_drew | apply blk_alloc)); exact BK185.out), (by (with_reducible repeat (first | apply blk_drewN | apply blk_drew | apply blk_alloc)); exact BK186.out), (by (with_reducible repeat (first | apply blk_drewN | apply blk_drew | apply blk_alloc)); exact BK187.out), (by (with_reducible repeat (first | apply blk_drewN | apply blk_drew | apply blk_alloc)); exact BK188.out), (by (with_reducible repeat (first | apply blk_drewN | apply blk_drew | apply blk_alloc)); exact BK194.out), GW194.out, GE194.out, NB185_194.out, NB194_185.out, NB186_194.out, NB194_186.out, NB187_194.out, NB194_187.out, NB188_194.out, NB194_188.out, (by repeat (first | (with_reducible first | exact HB.out | apply below_alloc | apply pw_below_drewN | apply below_drew1 | refine below_set ?_ GE185.out | refine below_set ?_ GE186.out | refine below_set ?_ GE187.out | refine below_set ?_ GE188.out | refine below_set ?_ GE194.out) | exact HB.out))⟩)
  rintro gb194 w98 ⟨hS_, h0_, h1_, h2_, h3_, h4_, h5_, h6_, h7_, h8_, h9_, h10_, h11_, h12_, h13_, h14_, h15_⟩
  have n0_ : Aside0 (w98.heap[gb185]? = some (.cells #[.int .i64 a0_0, .int .i64 a0_1] 23 (0, 0))) := ⟨h0_⟩
  have n1_ : Aside0 (w98.heap[gb186]? = some (.cells #[.int .i64 a1_0, .int .i64 a1_1] 23 (0, 0))) := ⟨h1_⟩
  have n2_ : Aside0 (w98.heap[gb187]? = some (.cells #[.int .i64 0, .int .i64 0] 23 (0, 0))) := ⟨h2_⟩
  have n3_ : Aside0 (w98.heap[gb188]? = some (.cells #[.int .i64 0, .int .i64 0] 23 (0, 0))) := ⟨h3_⟩
  have n4_ : Aside0 (w98.heap[gb194]? = some (.cells #[.int .i64 0, .int .i64 0] 23 (0, 0))) := ⟨h4_⟩
  have n5_ : Aside0 (w.heap.size ≤ gb194) := ⟨h5_⟩
  have n6_ : Aside0 (w.heap.size ≤ gb194) := ⟨h6_⟩
  have n7_ : Aside0 (gb185 ≠ gb194) := ⟨h7_⟩
  have n8_ : Aside0 (gb194 ≠ gb185) := ⟨h8_⟩
  have n9_ : Aside0 (gb186 ≠ gb194) := ⟨h9_⟩
  have n10_ : Aside0 (gb194 ≠ gb186) := ⟨h10_⟩
  have n11_ : Aside0 (gb187 ≠ gb194) := ⟨h11_⟩
  have n12_ : Aside0 (gb194 ≠ gb187) := ⟨h12_⟩
  have n13_ : Aside0 (gb188 ≠ gb194) := ⟨h13_⟩
  have n14_ : Aside0 (gb194 ≠ gb188) := ⟨h14_⟩
  have n15_ : Aside0 (Below w.heap.size w w98) := ⟨h15_⟩
  clear BK185
  clear BK186
  clear BK187
  clear BK188
  clear HB
  clear h0_ h1_ h2_ h3_ h4_ h5_ h6_ h7_ h8_ h9_ h10_ h11_ h12_ h13_ h14_ h15_
  have BK185 := n0_
  have BK186 := n1_
  have BK187 := n2_
  have BK188 := n3_
  have BK194 := n4_
  have GW194 := n5_
  have GE194 := n6_
  have NB185_194 := n7_
  have NB194_185 := n8_
  have NB186_194 := n9_
  have NB194_186 := n10_
  have NB187_194 := n11_
  have NB194_187 := n12_
  have NB188_194 := n13_
  have NB194_188 := n14_
  have HB := n15_
  clear n0_ n1_ n2_ n3_ n4_ n5_ n6_ n7_ n8_ n9_ n10_ n11_ n12_ n13_ n14_ n15_
  have hHeld : w98.cell? ⟨gb186, 0, none⟩ = some (.int .i64 a1_0) ∧ w98.cell? ⟨gb186, 1, none⟩ = some (.int .i64 a1_1) := hS_
  refine norm_ (a' := ?_) ?_ ?_
  rotate_left
  ·simp only [putAll, Act.put, List.setIfInBounds_toArray, List.set_cons_zero, List.set_cons_succ]
   rfl
  refine one_ (i := 7) (N := none) #[true, true, true, true, true, true, true, true, false] rfl rfl (one_of HT_.out (by kernel_rfl)) (by decide) (fun K hK => ?_)
  have hs99 : w98.cell? ⟨gb194, 0, none⟩ = some (.int .i64 0) := (blk_cell BK194.out 0).trans rfl
  have hfs99 := blk_frozen BK194.out 0
  have hns99_0 := NB185_194.out
  have hns99_1 := NB186_194.out
  have hns99_2 := NB187_194.out
  have hns99_3 := NB188_194.out
  have hms99_0 := NB194_185.out
  have hms99_1 := NB194_186.out
  have hms99_2 := NB194_187.out
  have hms99_3 := NB194_188.out
  have hs100 : w98.cell? ⟨gb194, 1, none⟩ = some (.int .i64 0) := (blk_cell BK194.out 1).trans rfl
  have hfs100 := blk_frozen BK194.out 1
  have hns100_0 := NB185_194.out
  have hns100_1 := NB186_194.out
  have hns100_2 := NB187_194.out
  have hns100_3 := NB188_194.out
  have hms100_0 := NB194_185.out
  have hms100_1 := NB194_186.out
  have hms100_2 := NB194_187.out
  have hms100_3 := NB194_188.out
  refine skip_ (w1 := ?_) (by rfl) rfl ?_ ?_
  rotate_left
  ·go_simp
   rfl
  refine hK.out _ _ ⟨((cell_far (p := ⟨gb194, _, none⟩) NB186_194.out _).trans (((cell_far (p := ⟨gb194, _, none⟩) NB186_194.out _).trans (hHeld.1)))), ((cell_far (p := ⟨gb194, _, none⟩) NB186_194.out _).trans (((cell_far (p := ⟨gb194, _, none⟩) NB186_194.out _).trans (hHeld.2))))⟩ (fun hHeld => ?_)
  clear hK K
  refine pure_ (i := 8) (N := some 8) (v := ?_) (a' := ?_) #[true, true, true, true, true, true, true, true, true] rfl rfl (any_of HT_.out (by kernel_rfl)) (fun _ _ _ h => h) (Or.inl ⟨by rfl, ?_⟩) ?_ ?_
  rotate_left
  ·intro w'
   go_simp
   with_reducible rfl
  rotate_left
  ·simp only [Act.put, List.setIfInBounds_toArray, List.set_cons_zero, List.set_cons_succ, i64_w, i32_w]
   rfl
  refine done_ (done_of HT_.out (by kernel_rfl)) ?_
  try go_wp2
  have n0_ : Aside0 (((w98.setCell ⟨gb194, 0, none⟩ (.int .i64 t191)).setCell ⟨gb194, 1, none⟩ (.int .i64 t192)).heap[gb185]? = some (.cells #[.int .i64 a0_0, .int .i64 a0_1] 23 (0, 0))) := ⟨by (repeat (first | (with_reducible first | apply blk_drewN | apply blk_drew | apply blk_alloc) | refine blk_far ?_ NB185_194.out _)); exact BK185.out⟩
  have n1_ : Aside0 (((w98.setCell ⟨gb194, 0, none⟩ (.int .i64 t191)).setCell ⟨gb194, 1, none⟩ (.int .i64 t192)).heap[gb186]? = some (.cells #[.int .i64 a1_0, .int .i64 a1_1] 23 (0, 0))) := ⟨by (repeat (first | (with_reducible first | apply blk_drewN | apply blk_drew | apply blk_alloc) | refine blk_far ?_ NB186_194.out _)); exact BK186.out⟩
  have n2_ : Aside0 (((w98.setCell ⟨gb194, 0, none⟩ (.int .i64 t191)).setCell ⟨gb194, 1, none⟩ (.int .i64 t192)).heap[gb187]? = some (.cells #[.int .i64 0, .int .i64 0] 23 (0, 0))) := ⟨by (repeat (first | (with_reducible first | apply blk_drewN | apply blk_drew | apply blk_alloc) | refine blk_far ?_ NB187_194.out _)); exact BK187.out⟩
  have n3_ : Aside0 (((w98.setCell ⟨gb194, 0, none⟩ (.int .i64 t191)).setCell ⟨gb194, 1, none⟩ (.int .i64 t192)).heap[gb188]? = some (.cells #[.int .i64 0, .int .i64 0] 23 (0, 0))) := ⟨by (repeat (first | (with_reducible first | apply blk_drewN | apply blk_drew | apply blk_alloc) | refine blk_far ?_ NB188_194.out _)); exact BK188.out⟩
  have n4_ : Aside0 (((w98.setCell ⟨gb194, 0, none⟩ (.int .i64 t191)).setCell ⟨gb194, 1, none⟩ (.int .i64 t192)).heap[gb194]? = some (.cells #[.int .i64 t191, .int .i64 t192] 23 (0, 0))) := ⟨by (with_reducible repeat (first | apply blk_drewN | apply blk_drew | apply blk_alloc)); refine blk_put (cs := #[.int .i64 t191, .int .i64 0]) ?_ 1 _ rfl; (with_reducible repeat (first | apply blk_drewN | apply blk_drew | apply blk_alloc)); refine blk_put (cs := #[.int .i64 0, .int .i64 0]) ?_ 0 _ rfl; (with_reducible repeat (first | apply blk_drewN | apply blk_drew | apply blk_alloc)); exact BK194.out⟩
  have n5_ : Aside0 (Below w.heap.size w ((w98.setCell ⟨gb194, 0, none⟩ (.int .i64 t191)).setCell ⟨gb194, 1, none⟩ (.int .i64 t192))) := ⟨by repeat (first | (with_reducible first | exact HB.out | apply below_alloc | apply pw_below_drewN | apply below_drew1 | refine below_set ?_ GE185.out | refine below_set ?_ GE186.out | refine below_set ?_ GE187.out | refine below_set ?_ GE188.out | refine below_set ?_ GE194.out) | exact HB.out)⟩
  (try clear BK185)
  (try clear BK186)
  (try clear BK187)
  (try clear BK188)
  (try clear BK194)
  (try clear HB)
  generalize ((w98.setCell ⟨gb194, 0, none⟩ (.int .i64 t191)).setCell ⟨gb194, 1, none⟩ (.int .i64 t192)) = w101 at n0_ n1_ n2_ n3_ n4_ n5_ ⊢
  have BK185 := n0_
  have BK186 := n1_
  have BK187 := n2_
  have BK188 := n3_
  have BK194 := n4_
  have HB := n5_
  clear n0_ n1_ n2_ n3_ n4_ n5_
  have n0_ := Aside0.mk (blk_drew BK185.out)
  have n1_ := Aside0.mk (blk_drew BK186.out)
  have n2_ := Aside0.mk (blk_drew BK187.out)
  have n3_ := Aside0.mk (blk_drew BK188.out)
  have n4_ := Aside0.mk (blk_drew BK194.out)
  have n5_ := Aside0.mk (below_drew1 HB.out)
  clear BK185
  clear BK186
  clear BK187
  clear BK188
  clear BK194
  clear HB
  have BK185 := n0_
  have BK186 := n1_
  have BK187 := n2_
  have BK188 := n3_
  have BK194 := n4_
  have HB := n5_
  clear n0_ n1_ n2_ n3_ n4_ n5_
  refine start_ (n := 6) (S := fun w' => w'.cell? ⟨gb194, 0, none⟩ = some (.int .i64 t191) ∧ w'.cell? ⟨gb194, 1, none⟩ = some (.int .i64 t192) ∧ w'.cell? ⟨gb186, 0, none⟩ = some (.int .i64 a1_0) ∧ w'.cell? ⟨gb186, 1, none⟩ = some (.int .i64 a1_1)) (ds := []) #[false, false, false, false, false, false] (by kernel_rfl) rfl rfl ⟨(blk_cell BK194.out 0).trans rfl, (blk_cell BK194.out 1).trans rfl, (blk_cell BK186.out 0).trans rfl, (blk_cell BK186.out 1).trans rfl⟩ (fun hHeld => ?_)
  generalize w101.drew = w102 at BK185 BK186 BK187 BK188 BK194 HB hHeld ⊢
  refine pure_ (i := 2) (N := some 21) (v := ?_) (a' := ?_) #[false, false, true, false, false, false] rfl rfl (by kernel_rfl) (fun _ _ _ h => h) (Or.inl ⟨by rfl, ?_⟩) ?_ ?_
  rotate_left
  ·intro w'
   go_simp
   with_reducible rfl
  rotate_left
  ·simp only [Act.put, List.setIfInBounds_toArray, List.set_cons_zero, List.set_cons_succ, i64_w, i32_w]
   rfl
  refine take_ (i := 0) (N := some 19) (v := ?_) (a' := ?_) #[true, false, true, false, false, false] rfl rfl (by kernel_rfl) (fun _ _ _ h => h) (Or.inl ⟨by rfl, ?_⟩) hHeld ?_ ?_
  rotate_left
  ·rintro w' ⟨s0, s1, s2, s3⟩
   go_simp
   with_reducible rfl
  rotate_left
  ·simp only [Act.put, List.setIfInBounds_toArray, List.set_cons_zero, List.set_cons_succ, i64_w, i32_w]
   rfl
  refine take_ (i := 1) (N := some 20) (v := ?_) (a' := ?_) #[true, true, true, false, false, false] rfl rfl (by kernel_rfl) (fun _ _ _ h => h) (Or.inl ⟨by rfl, ?_⟩) hHeld ?_ ?_
  rotate_left
  ·rintro w' ⟨s0, s1, s2, s3⟩
   go_simp
   with_reducible rfl
  rotate_left
  ·simp only [Act.put, List.setIfInBounds_toArray, List.set_cons_zero, List.set_cons_succ, i64_w, i32_w]
   rfl
  refine one_ (i := 3) (N := none) #[true, true, true, true, false, false] rfl rfl (by kernel_rfl) (by decide) (fun K hK => ?_)
  have hs103 : w102.cell? ⟨gb187, 0, none⟩ = some (.int .i64 0) := (blk_cell BK187.out 0).trans rfl
  have hfs103 := blk_frozen BK187.out 0
  have hns103_0 := NB185_187.out
  have hns103_1 := NB186_187.out
  have hns103_3 := NB188_187.out
  have hns103_4 := NB194_187.out
  have hms103_0 := NB187_185.out
  have hms103_1 := NB187_186.out
  have hms103_3 := NB187_188.out
  have hms103_4 := NB187_194.out
  have hs104 : w102.cell? ⟨gb187, 1, none⟩ = some (.int .i64 0) := (blk_cell BK187.out 1).trans rfl
  have hfs104 := blk_frozen BK187.out 1
  have hns104_0 := NB185_187.out
  have hns104_1 := NB186_187.out
  have hns104_3 := NB188_187.out
  have hns104_4 := NB194_187.out
  have hms104_0 := NB187_185.out
  have hms104_1 := NB187_186.out
  have hms104_3 := NB187_188.out
  have hms104_4 := NB187_194.out
  refine skip_ (w1 := ?_) (by rfl) rfl ?_ ?_
  rotate_left
  ·go_simp
   rfl
  refine hK.out _ _ ⟨((cell_far (p := ⟨gb187, _, none⟩) NB194_187.out _).trans (((cell_far (p := ⟨gb187, _, none⟩) NB194_187.out _).trans (hHeld.1)))), ((cell_far (p := ⟨gb187, _, none⟩) NB194_187.out _).trans (((cell_far (p := ⟨gb187, _, none⟩) NB194_187.out _).trans (hHeld.2.1)))), ((cell_far (p := ⟨gb187, _, none⟩) NB186_187.out _).trans (((cell_far (p := ⟨gb187, _, none⟩) NB186_187.out _).trans (hHeld.2.2.1)))), ((cell_far (p := ⟨gb187, _, none⟩) NB186_187.out _).trans (((cell_far (p := ⟨gb187, _, none⟩) NB186_187.out _).trans (hHeld.2.2.2))))⟩ (fun hHeld => ?_)
  clear hK K
  refine one_ (i := 4) (N := none) #[true, true, true, true, true, false] rfl rfl (by kernel_rfl) (by decide) (fun K hK => ?_)
  have hs105 : w102.cell? ⟨gb188, 0, none⟩ = some (.int .i64 0) := (blk_cell BK188.out 0).trans rfl
  have hfs105 := blk_frozen BK188.out 0
  have hns105_0 := NB185_188.out
  have hns105_1 := NB186_188.out
  have hns105_2 := NB187_188.out
  have hns105_4 := NB194_188.out
  have hms105_0 := NB188_185.out
  have hms105_1 := NB188_186.out
  have hms105_2 := NB188_187.out
  have hms105_4 := NB188_194.out
  have hs106 : w102.cell? ⟨gb188, 1, none⟩ = some (.int .i64 0) := (blk_cell BK188.out 1).trans rfl
  have hfs106 := blk_frozen BK188.out 1
  have hns106_0 := NB185_188.out
  have hns106_1 := NB186_188.out
  have hns106_2 := NB187_188.out
  have hns106_4 := NB194_188.out
  have hms106_0 := NB188_185.out
  have hms106_1 := NB188_186.out
  have hms106_2 := NB188_187.out
  have hms106_4 := NB188_194.out
  refine skip_ (w1 := ?_) (by rfl) rfl ?_ ?_
  rotate_left
  ·go_simp
   rfl
  refine hK.out _ _ ⟨((cell_far (p := ⟨gb188, _, none⟩) NB194_188.out _).trans (((cell_far (p := ⟨gb188, _, none⟩) NB194_188.out _).trans (hHeld.1)))), ((cell_far (p := ⟨gb188, _, none⟩) NB194_188.out _).trans (((cell_far (p := ⟨gb188, _, none⟩) NB194_188.out _).trans (hHeld.2.1)))), ((cell_far (p := ⟨gb188, _, none⟩) NB186_188.out _).trans (((cell_far (p := ⟨gb188, _, none⟩) NB186_188.out _).trans (hHeld.2.2.1)))), ((cell_far (p := ⟨gb188, _, none⟩) NB186_188.out _).trans (((cell_far (p := ⟨gb188, _, none⟩) NB186_188.out _).trans (hHeld.2.2.2))))⟩ (fun hHeld => ?_)
  clear hK K
  refine pure_ (i := 5) (N := some 6) (v := ?_) (a' := ?_) #[true, true, true, true, true, true] rfl rfl (by kernel_rfl) (fun _ _ _ h => h) (Or.inl ⟨by rfl, ?_⟩) ?_ ?_
  rotate_left
  ·intro w'
   go_simp
   with_reducible rfl
  rotate_left
  ·simp only [Act.put, List.setIfInBounds_toArray, List.set_cons_zero, List.set_cons_succ, i64_w, i32_w]
   rfl
  refine done_ (by kernel_rfl) ?_
  try go_wp2
  refine bodyPost_ret (results_list (rs := [.cell 4 23, .cell 5 23, .tmp 6]) rfl (by simp) (.cell gb187 23 #[.int .i64 t191, .int .i64 t192] (0, 0) _ rfl (by (with_reducible repeat (first | apply blk_drewN | apply blk_drew | apply blk_alloc)); refine blk_far ?_ NB187_188.out _; (with_reducible repeat (first | apply blk_drewN | apply blk_drew | apply blk_alloc)); refine blk_far ?_ NB187_188.out _; (with_reducible repeat (first | apply blk_drewN | apply blk_drew | apply blk_alloc)); refine blk_put (cs := #[.int .i64 t191, .int .i64 0]) ?_ 1 _ rfl; (with_reducible repeat (first | apply blk_drewN | apply blk_drew | apply blk_alloc)); refine blk_put (cs := #[.int .i64 0, .int .i64 0]) ?_ 0 _ rfl; (with_reducible repeat (first | apply blk_drewN | apply blk_drew | apply blk_alloc)); exact BK187.out) Try.underlying23 rfl (by kernel_rfl) (.cell gb188 23 #[.int .i64 a1_0, .int .i64 a1_1] (0, 0) _ rfl (by (with_reducible repeat (first | apply blk_drewN | apply blk_drew | apply blk_alloc)); refine blk_put (cs := #[.int .i64 a1_0, .int .i64 0]) ?_ 1 _ rfl; (with_reducible repeat (first | apply blk_drewN | apply blk_drew | apply blk_alloc)); refine blk_put (cs := #[.int .i64 0, .int .i64 0]) ?_ 0 _ rfl; (repeat (first | (with_reducible first | apply blk_drewN | apply blk_drew | apply blk_alloc) | refine blk_far ?_ NB188_187.out _)); exact BK188.out) Try.underlying23 rfl (by kernel_rfl) (.tmp .nil)))) rfl ?_
  exact ⟨by first | rfl | (simp [errW_none, errW_some] <;> rfl) | (simp [*, errW_none, errW_some] <;> rfl), by repeat (first | (with_reducible first | exact HB.out | apply below_alloc | apply pw_below_drewN | apply below_drew1 | refine below_set ?_ GE185.out | refine below_set ?_ GE186.out | refine below_set ?_ GE187.out | refine below_set ?_ GE188.out | refine below_set ?_ GE194.out) | exact HB.out)⟩

end Go.Proofs.Ytpcdcanmbokpfaa.PPH
