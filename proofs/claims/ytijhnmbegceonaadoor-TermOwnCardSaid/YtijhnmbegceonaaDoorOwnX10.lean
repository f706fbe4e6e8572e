-- Words and walks printed by the kit and by programs of this session, and texts by hand, cut to what this law uses (wip/pack.py).
import Derived.Test.YtijhnmbegceonaaDoorProg
import Derived.Below
import Derived.Deep.Draws
import Derived.Deep.AppendLies
import Derived.Maps.AppendAt
import Derived.OwnWalk
import Derived.Laws.BytesArg
import Derived.Laws.MakeOwn
import Derived.Laws.OwnMore
import Derived.Deep.OwnRows
import Derived.Tactics
import Derived.Lib.ConvBytes
import Derived.Laws.Slices
import Derived.WalkKit
import Derived.KernelRfl
import Derived.RowKit3
import Derived.Deep.LoopGhost
import Derived.Deep.QuietTactic
import Derived.BigQuiet
import Derived.WideLaws
import Derived.Deep.DeepCutAuto
import Derived.Deep.CutBlock
import Derived.Deep.RegionHeld3
import Derived.Laws.Rows
import Derived.Lib.AppendStr
import Derived.ArgAppend
import Derived.Laws.IdiomCopy
import Derived.OrdersHeld
import Derived.Laws.BitsLemmas
import Derived.RowKit
import Derived.Test.YtijhnmbegceonaaDoorOwnX9
import Derived.Test.YtijhnmbegceonaaDoorOwnX4
import Derived.Test.YtijhnmbegceonaaDoorOwnX2
import Derived.Test.YtijhnmbegceonaaDoorOwnX6
import Derived.Test.YtijhnmbegceonaaDoorOwnX5
import Derived.Test.YtijhnmbegceonaaDoorOwnX1
namespace Go.Proofs.YtijhnmbegceonaaDoor.PRat
open Go.RowKit Go.Proofs.YtijhnmbegceonaaDoorW.PrintWords Go.Proofs.YtijhnmbegceonaaDoorW.PrintLast Go.Proofs.YtijhnmbegceonaaDoorW.PrintMore
attribute [local go_sem] max2_int min2_int max_two min_two max_three min_three max_four min_four
set_option linter.unusedVariables false
set_option linter.unusedSimpArgs false
def errW : Option Int → Value
  | none => .nilIface
  | some c => .iface 0 (.int .i64 c)
theorem errW_none : errW none = .nilIface := rfl
theorem errW_some (c : Int) : errW (some c) = .iface 0 (.int .i64 c) := rfl
end Go.Proofs.YtijhnmbegceonaaDoor.PRat
namespace Go.Proofs.YtijhnmbegceonaaDoor.PRat
open Go.RowKit Go.Proofs.YtijhnmbegceonaaDoorW.PrintWords Go.Proofs.YtijhnmbegceonaaDoorW.PrintLast Go.Proofs.YtijhnmbegceonaaDoorW.PrintMore
attribute [local go_sem] max2_int min2_int max_two min_two max_three min_three max_four min_four
set_option linter.unusedVariables false
set_option linter.unusedSimpArgs false
def rat_common.l0 : Nat → Int → Int → Option (Int)
  | 0, _, _ => none
  | k + 1, x0, x1 => if x1 = 0 then (some x0) else (rat_common.l0 k x1 (Int.tmod x0 x1))
def rat_common.f (k : Nat) (a0 : Int) (a1 : Int) : Option (Int) := rat_common.l0 k a0 a1
set_option maxHeartbeats 8000000 in
set_option maxRecDepth 100000 in
theorem rat_common.calls (k : Nat) (a0 : Int) (a1 : Int) (r : Int) (w : World) (h : rat_common.f k a0 a1 = some r) :
    Calls Tryd.prog 59 #[.int .u64 a0, .int .u64 a1] w fun e w' => e = .returned (.int .u64 r) ∧ Drawn0 w w' := by
  have H : (rat_common.l0 k a0 a1) = some r := h
  clear h
  have H' := Aside0.mk H
  clear H
  go_enter Tryd.func59, Tryd.ntmps59
  go_wp2
  repeat (go_quiet (fail); try go_wp2)
  go_loopg [0, 1] k (fun kq v0 v1 w' => ∃ (x0_1 : Int) (x1_1 : Int), v0 = .int .u64 x0_1 ∧ v1 = .int .u64 x1_1 ∧ Aside0 (rat_common.l0 kq x0_1 x1_1 = some r) ∧ Aside0 (kq ≤ k) ∧ Drawn0 w w')
  case atStart => exact ⟨(a0), (a1), (by first | rfl | (simp; done) | (simp [*]; done)), (by first | rfl | (simp; done) | (simp [*]; done)), H', ⟨Nat.le_refl _⟩, by repeat (first | exact Drawn0.refl _ | apply Drawn0.step)⟩
  case round =>
    clear H'
    try clear p2
    obtain ⟨x0_1, x1_1, rfl, rfl, HA, HK1, ⟨m1, rfl⟩⟩ := hrel
    cases gk with
    | zero => exact absurd HA.out (by simp [rat_common.l0])
    | succ k1 =>
      have H := HA.out
      clear HA
      simp only [rat_common.l0] at H
      by_cases c3 : x1_1 = 0
      · rw [if_pos c3] at H
        have c3b0 : (x1_1 == 0) = true := beq_iff_eq.mpr c3
        have c3b1 : (x1_1 != 0) = false := bne_eq_false_iff_eq.mpr c3
        clear c3
        obtain rfl := Option.some.inj H
        go_wp2
        repeat (go_quiet (fail); try go_wp2)
        go_ret
        exact ⟨by first | rfl | (simp; done) | (simp [*]; done), by repeat (first | exact Drawn0.refl _ | apply Drawn0.step)⟩
      · rw [if_neg c3] at H
        have c3b0 : (x1_1 == 0) = false := beq_eq_false_iff_ne.mpr c3
        have c3b1 : (x1_1 != 0) = true := bne_iff_ne.mpr c3
        have H' := Aside0.mk H
        clear H
        go_wp2
        repeat (go_quiet (fail); try go_wp2)
        go_roundg k1
        case measure => have := HK1.out; omega
        case rel => exact ⟨(x1_1), (Int.tmod x0_1 x1_1), (by first | rfl | (simp; done) | (simp [*]; done)), (by first | rfl | (simp; done) | (simp [*]; done)), H', ⟨by have := HK1.out; omega⟩, by repeat (first | exact Drawn0.refl _ | apply Drawn0.step)⟩
def rat_size.f (a0 : Int) : Option (Int) := if a0 < 0 then (some (IntKind.u64.wrap (-(IntKind.u64.wrap (a0))))) else (some (IntKind.u64.wrap (a0)))
set_option maxHeartbeats 8000000 in
set_option maxRecDepth 100000 in
theorem rat_size.calls (a0 : Int) (r : Int) (w : World) (h : rat_size.f a0 = some r) :
    Calls Tryd.prog 60 #[.int .i64 a0] w fun e w' => e = .returned (.int .u64 r) ∧ Drawn0 w w' := by
  have H : (if a0 < 0 then (some (IntKind.u64.wrap (-(IntKind.u64.wrap (a0))))) else (some (IntKind.u64.wrap (a0)))) = some r := h
  clear h
  by_cases c2 : a0 < 0
  · rw [if_pos c2] at H
    have c2b0 : decide (a0 < 0) = true := decide_eq_true c2
    clear c2
    obtain rfl := Option.some.inj H
    go_enter Tryd.func60, Tryd.ntmps60
    go_wp2
    go_ret
    exact ⟨by first | rfl | (simp; done) | (simp [*]; done), by repeat (first | exact Drawn0.refl _ | apply Drawn0.step)⟩
  · rw [if_neg c2] at H
    have c2b0 : decide (a0 < 0) = false := decide_eq_false c2
    clear c2
    obtain rfl := Option.some.inj H
    go_enter Tryd.func60, Tryd.ntmps60
    go_wp2
    go_ret
    exact ⟨by first | rfl | (simp; done) | (simp [*]; done), by repeat (first | exact Drawn0.refl _ | apply Drawn0.step)⟩
def rat_Right.f (k : Nat) (a0_0 : Int) (a0_1 : Int) : Option (Bool) := if a0_1 > 0 then (if a0_0 = (-9223372036854775808) then (some false) else ((rat_size.f a0_0).bind fun t102 => ((rat_size.f a0_1).bind fun t103 => ((rat_common.f k t102 t103).bind fun t104 => (some (t104 == 1)))))) else (some false)
set_option maxHeartbeats 8000000 in
set_option maxRecDepth 100000 in
theorem rat_Right.calls (k : Nat) (a0_0 : Int) (a0_1 : Int) (r : Bool) (w : World) (h : rat_Right.f k a0_0 a0_1 = some r) :
    Calls Tryd.prog 37 #[.agg #[.int .i64 a0_0, .int .i64 a0_1]] w fun e w' => e = .returned (.bool r) ∧ Below w.heap.size w w' := by
  have hu24 := Tryd.underlying24
  have HB := Aside0.mk (Below.refl w.heap.size w)
  have H : (if a0_1 > 0 then (if a0_0 = (-9223372036854775808) then (some false) else ((rat_size.f a0_0).bind fun t102 => ((rat_size.f a0_1).bind fun t103 => ((rat_common.f k t102 t103).bind fun t104 => (some (t104 == 1)))))) else (some false)) = some r := h
  clear h
  by_cases c2 : a0_1 > 0
  · rw [if_pos c2] at H
    have c2b0 : decide (0 < a0_1) = true := decide_eq_true c2
    clear c2
    by_cases c3 : a0_0 = (-9223372036854775808)
    · rw [if_pos c3] at H
      have c3b0 : (a0_0 == (-9223372036854775808)) = true := beq_iff_eq.mpr c3
      have c3b1 : (a0_0 != (-9223372036854775808)) = false := bne_eq_false_iff_eq.mpr c3
      clear c3
      obtain rfl := Option.some.inj H
      go_enter Tryd.func37, Tryd.ntmps37
      go_wp2_with (first | ((with_reducible refine gate_dst (N := 1) rfl ?_); refine box_event ?hg (N := 1) ?hd (cs := #[.int .i64 a0_0, .int .i64 a0_1]) (t := 24) ?hr ?_; (case hd => rfl); (case hg => rfl); (case hr => first | (go_simp; done) | (go_simp; rfl)); intro gb101 hg w4 hbox hb; have n0_ := Aside0.mk (below_step (by repeat (first | (with_reducible first | exact HB.out | apply below_alloc | apply pw_below_drewN | apply below_drew1) | exact HB.out)) hb); have n1_ := Aside0.mk (hbox); have n2_ := Aside0.mk ((by rw [hg]; exact (below_size (by repeat (first | (with_reducible first | exact HB.out | apply below_alloc | apply pw_below_drewN | apply below_drew1) | exact HB.out))) : w.heap.size ≤ gb101)); have n3_ := Aside0.mk ((by rw [hg]; exact (below_size (by repeat (first | (with_reducible first | exact HB.out | apply below_alloc | apply pw_below_drewN | apply below_drew1) | exact HB.out))) : w.heap.size ≤ gb101)); clear HB; have HB := n0_; have BK101 := n1_; have GW101 := n2_; have GE101 := n3_; clear n0_ n1_ n2_ n3_; clear hb hbox hg; have hcz5_0 : w4.cell? ⟨gb101, 0, none⟩ = some (.int .i64 a0_0) := (blk_cell BK101.out 0).trans rfl; have hcz5_1 : w4.cell? ⟨gb101, 1, none⟩ = some (.int .i64 a0_1) := (blk_cell BK101.out 1).trans rfl; have hfz5_0 := blk_frozen BK101.out 0; have hfz5_1 := blk_frozen BK101.out 1))
      repeat (go_quiet (first | ((with_reducible refine gate_dst (N := 1) rfl ?_); refine box_event ?hg (N := 1) ?hd (cs := #[.int .i64 a0_0, .int .i64 a0_1]) (t := 24) ?hr ?_; (case hd => rfl); (case hg => rfl); (case hr => first | (go_simp; done) | (go_simp; rfl)); intro gb101 hg w4 hbox hb; have n0_ := Aside0.mk (below_step (by repeat (first | (with_reducible first | exact HB.out | apply below_alloc | apply pw_below_drewN | apply below_drew1) | exact HB.out)) hb); have n1_ := Aside0.mk (hbox); have n2_ := Aside0.mk ((by rw [hg]; exact (below_size (by repeat (first | (with_reducible first | exact HB.out | apply below_alloc | apply pw_below_drewN | apply below_drew1) | exact HB.out))) : w.heap.size ≤ gb101)); have n3_ := Aside0.mk ((by rw [hg]; exact (below_size (by repeat (first | (with_reducible first | exact HB.out | apply below_alloc | apply pw_below_drewN | apply below_drew1) | exact HB.out))) : w.heap.size ≤ gb101)); clear HB; have HB := n0_; have BK101 := n1_; have GW101 := n2_; have GE101 := n3_; clear n0_ n1_ n2_ n3_; clear hb hbox hg; have hcz5_0 : w4.cell? ⟨gb101, 0, none⟩ = some (.int .i64 a0_0) := (blk_cell BK101.out 0).trans rfl; have hcz5_1 : w4.cell? ⟨gb101, 1, none⟩ = some (.int .i64 a0_1) := (blk_cell BK101.out 1).trans rfl; have hfz5_0 := blk_frozen BK101.out 0; have hfz5_1 := blk_frozen BK101.out 1)); try go_wp2_with (first | ((with_reducible refine gate_dst (N := 1) rfl ?_); refine box_event ?hg (N := 1) ?hd (cs := #[.int .i64 a0_0, .int .i64 a0_1]) (t := 24) ?hr ?_; (case hd => rfl); (case hg => rfl); (case hr => first | (go_simp; done) | (go_simp; rfl)); intro gb101 hg w4 hbox hb; have n0_ := Aside0.mk (below_step (by repeat (first | (with_reducible first | exact HB.out | apply below_alloc | apply pw_below_drewN | apply below_drew1) | exact HB.out)) hb); have n1_ := Aside0.mk (hbox); have n2_ := Aside0.mk ((by rw [hg]; exact (below_size (by repeat (first | (with_reducible first | exact HB.out | apply below_alloc | apply pw_below_drewN | apply below_drew1) | exact HB.out))) : w.heap.size ≤ gb101)); have n3_ := Aside0.mk ((by rw [hg]; exact (below_size (by repeat (first | (with_reducible first | exact HB.out | apply below_alloc | apply pw_below_drewN | apply below_drew1) | exact HB.out))) : w.heap.size ≤ gb101)); clear HB; have HB := n0_; have BK101 := n1_; have GW101 := n2_; have GE101 := n3_; clear n0_ n1_ n2_ n3_; clear hb hbox hg; have hcz5_0 : w4.cell? ⟨gb101, 0, none⟩ = some (.int .i64 a0_0) := (blk_cell BK101.out 0).trans rfl; have hcz5_1 : w4.cell? ⟨gb101, 1, none⟩ = some (.int .i64 a0_1) := (blk_cell BK101.out 1).trans rfl; have hfz5_0 := blk_frozen BK101.out 0; have hfz5_1 := blk_frozen BK101.out 1)))
      go_ret
      exact ⟨by first | rfl | (simp [errW_none, errW_some] <;> rfl) | (simp [*, errW_none, errW_some] <;> rfl), by repeat (first | (with_reducible first | exact HB.out | apply below_alloc | apply pw_below_drewN | apply below_drew1 | refine below_set ?_ GE101.out) | exact HB.out)⟩
    · rw [if_neg c3] at H
      have c3b0 : (a0_0 == (-9223372036854775808)) = false := beq_eq_false_iff_ne.mpr c3
      have c3b1 : (a0_0 != (-9223372036854775808)) = true := bne_iff_ne.mpr c3
      replace H := Option.bind_eq_some_iff.mp H
      obtain ⟨t102, A60, H⟩ := H
      replace H : ((rat_size.f a0_1).bind fun t103 => ((rat_common.f k t102 t103).bind fun t104 => (some (t104 == 1)))) = some r := H
      have A6 := Aside0.mk A60
      clear A60
      replace H := Option.bind_eq_some_iff.mp H
      obtain ⟨t103, A70, H⟩ := H
      replace H : ((rat_common.f k t102 t103).bind fun t104 => (some (t104 == 1))) = some r := H
      have A7 := Aside0.mk A70
      clear A70
      replace H := Option.bind_eq_some_iff.mp H
      obtain ⟨t104, A80, H⟩ := H
      replace H : (some (t104 == 1)) = some r := H
      have A8 := Aside0.mk A80
      clear A80
      obtain rfl := Option.some.inj H
      go_enter Tryd.func37, Tryd.ntmps37
      go_wp2_with (first | ((with_reducible refine gate_dst (N := 1) rfl ?_); refine box_event ?hg (N := 1) ?hd (cs := #[.int .i64 a0_0, .int .i64 a0_1]) (t := 24) ?hr ?_; (case hd => rfl); (case hg => rfl); (case hr => first | (go_simp; done) | (go_simp; rfl)); intro gb101 hg w9 hbox hb; have n0_ := Aside0.mk (below_step (by repeat (first | (with_reducible first | exact HB.out | apply below_alloc | apply pw_below_drewN | apply below_drew1) | exact HB.out)) hb); have n1_ := Aside0.mk (hbox); have n2_ := Aside0.mk ((by rw [hg]; exact (below_size (by repeat (first | (with_reducible first | exact HB.out | apply below_alloc | apply pw_below_drewN | apply below_drew1) | exact HB.out))) : w.heap.size ≤ gb101)); have n3_ := Aside0.mk ((by rw [hg]; exact (below_size (by repeat (first | (with_reducible first | exact HB.out | apply below_alloc | apply pw_below_drewN | apply below_drew1) | exact HB.out))) : w.heap.size ≤ gb101)); clear HB; have HB := n0_; have BK101 := n1_; have GW101 := n2_; have GE101 := n3_; clear n0_ n1_ n2_ n3_; clear hb hbox hg; have hcz10_0 : w9.cell? ⟨gb101, 0, none⟩ = some (.int .i64 a0_0) := (blk_cell BK101.out 0).trans rfl; have hcz10_1 : w9.cell? ⟨gb101, 1, none⟩ = some (.int .i64 a0_1) := (blk_cell BK101.out 1).trans rfl; have hfz10_0 := blk_frozen BK101.out 0; have hfz10_1 := blk_frozen BK101.out 1) | (go_at_call 60; (with_reducible refine (rat_size.calls a0_0 t102 _ A6.out).mono ?_); rintro e w' ⟨rfl, ⟨nd, rfl⟩⟩; (try first | exact ⟨rfl, _, World.drewN_drewN _ _ _⟩ | exact ⟨rfl, _, Eq.trans (World.drewN_drewN _ _ _) (congrArg (World.drewN _) (Nat.add_assoc _ _ _))⟩)) | (go_at_call 60; (with_reducible refine (rat_size.calls a0_1 t103 _ A7.out).mono ?_); rintro e w' ⟨rfl, ⟨nd, rfl⟩⟩; (try first | exact ⟨rfl, _, World.drewN_drewN _ _ _⟩ | exact ⟨rfl, _, Eq.trans (World.drewN_drewN _ _ _) (congrArg (World.drewN _) (Nat.add_assoc _ _ _))⟩)) | (go_at_call 59; (with_reducible refine (rat_common.calls k t102 t103 t104 _ A8.out).mono ?_); rintro e w' ⟨rfl, ⟨nd, rfl⟩⟩; (try first | exact ⟨rfl, _, World.drewN_drewN _ _ _⟩ | exact ⟨rfl, _, Eq.trans (World.drewN_drewN _ _ _) (congrArg (World.drewN _) (Nat.add_assoc _ _ _))⟩)))
      repeat (go_quiet (first | ((with_reducible refine gate_dst (N := 1) rfl ?_); refine box_event ?hg (N := 1) ?hd (cs := #[.int .i64 a0_0, .int .i64 a0_1]) (t := 24) ?hr ?_; (case hd => rfl); (case hg => rfl); (case hr => first | (go_simp; done) | (go_simp; rfl)); intro gb101 hg w9 hbox hb; have n0_ := Aside0.mk (below_step (by repeat (first | (with_reducible first | exact HB.out | apply below_alloc | apply pw_below_drewN | apply below_drew1) | exact HB.out)) hb); have n1_ := Aside0.mk (hbox); have n2_ := Aside0.mk ((by rw [hg]; exact (below_size (by repeat (first | (with_reducible first | exact HB.out | apply below_alloc | apply pw_below_drewN | apply below_drew1) | exact HB.out))) : w.heap.size ≤ gb101)); have n3_ := Aside0.mk ((by rw [hg]; exact (below_size (by repeat (first | (with_reducible first | exact HB.out | apply below_alloc | apply pw_below_drewN | apply below_drew1) | exact HB.out))) : w.heap.size ≤ gb101)); clear HB; have HB := n0_; have BK101 := n1_; have GW101 := n2_; have GE101 := n3_; clear n0_ n1_ n2_ n3_; clear hb hbox hg; have hcz10_0 : w9.cell? ⟨gb101, 0, none⟩ = some (.int .i64 a0_0) := (blk_cell BK101.out 0).trans rfl; have hcz10_1 : w9.cell? ⟨gb101, 1, none⟩ = some (.int .i64 a0_1) := (blk_cell BK101.out 1).trans rfl; have hfz10_0 := blk_frozen BK101.out 0; have hfz10_1 := blk_frozen BK101.out 1) | (go_at_call 60; (with_reducible refine (rat_size.calls a0_0 t102 _ A6.out).mono ?_); rintro e w' ⟨rfl, ⟨nd, rfl⟩⟩; (try first | exact ⟨rfl, _, World.drewN_drewN _ _ _⟩ | exact ⟨rfl, _, Eq.trans (World.drewN_drewN _ _ _) (congrArg (World.drewN _) (Nat.add_assoc _ _ _))⟩)) | (go_at_call 60; (with_reducible refine (rat_size.calls a0_1 t103 _ A7.out).mono ?_); rintro e w' ⟨rfl, ⟨nd, rfl⟩⟩; (try first | exact ⟨rfl, _, World.drewN_drewN _ _ _⟩ | exact ⟨rfl, _, Eq.trans (World.drewN_drewN _ _ _) (congrArg (World.drewN _) (Nat.add_assoc _ _ _))⟩)) | (go_at_call 59; (with_reducible refine (rat_common.calls k t102 t103 t104 _ A8.out).mono ?_); rintro e w' ⟨rfl, ⟨nd, rfl⟩⟩; (try first | exact ⟨rfl, _, World.drewN_drewN _ _ _⟩ | exact ⟨rfl, _, Eq.trans (World.drewN_drewN _ _ _) (congrArg (World.drewN _) (Nat.add_assoc _ _ _))⟩))); try go_wp2_with (first | ((with_reducible refine gate_dst (N := 1) rfl ?_); refine box_event ?hg (N := 1) ?hd (cs := #[.int .i64 a0_0, .int .i64 a0_1]) (t := 24) ?hr ?_; (case hd => rfl); (case hg => rfl); (case hr => first | (go_simp; done) | (go_simp; rfl)); intro gb101 hg w9 hbox hb; have n0_ := Aside0.mk (below_step (by repeat (first | (with_reducible first | exact HB.out | apply below_alloc | apply pw_below_drewN | apply below_drew1) | exact HB.out)) hb); have n1_ := Aside0.mk (hbox); have n2_ := Aside0.mk ((by rw [hg]; exact (below_size (by repeat (first | (with_reducible first | exact HB.out | apply below_alloc | apply pw_below_drewN | apply below_drew1) | exact HB.out))) : w.heap.size ≤ gb101)); have n3_ := Aside0.mk ((by rw [hg]; exact (below_size (by repeat (first | (with_reducible first | exact HB.out | apply below_alloc | apply pw_below_drewN | apply below_drew1) | exact HB.out))) : w.heap.size ≤ gb101)); clear HB; have HB := n0_; have BK101 := n1_; have GW101 := n2_; have GE101 := n3_; clear n0_ n1_ n2_ n3_; clear hb hbox hg; have hcz10_0 : w9.cell? ⟨gb101, 0, none⟩ = some (.int .i64 a0_0) := (blk_cell BK101.out 0).trans rfl; have hcz10_1 : w9.cell? ⟨gb101, 1, none⟩ = some (.int .i64 a0_1) := (blk_cell BK101.out 1).trans rfl; have hfz10_0 := blk_frozen BK101.out 0; have hfz10_1 := blk_frozen BK101.out 1) | (go_at_call 60; (with_reducible refine (rat_size.calls a0_0 t102 _ A6.out).mono ?_); rintro e w' ⟨rfl, ⟨nd, rfl⟩⟩; (try first | exact ⟨rfl, _, World.drewN_drewN _ _ _⟩ | exact ⟨rfl, _, Eq.trans (World.drewN_drewN _ _ _) (congrArg (World.drewN _) (Nat.add_assoc _ _ _))⟩)) | (go_at_call 60; (with_reducible refine (rat_size.calls a0_1 t103 _ A7.out).mono ?_); rintro e w' ⟨rfl, ⟨nd, rfl⟩⟩; (try first | exact ⟨rfl, _, World.drewN_drewN _ _ _⟩ | exact ⟨rfl, _, Eq.trans (World.drewN_drewN _ _ _) (congrArg (World.drewN _) (Nat.add_assoc _ _ _))⟩)) | (go_at_call 59; (with_reducible refine (rat_common.calls k t102 t103 t104 _ A8.out).mono ?_); rintro e w' ⟨rfl, ⟨nd, rfl⟩⟩; (try first | exact ⟨rfl, _, World.drewN_drewN _ _ _⟩ | exact ⟨rfl, _, Eq.trans (World.drewN_drewN _ _ _) (congrArg (World.drewN _) (Nat.add_assoc _ _ _))⟩))))
      go_ret
      exact ⟨by first | rfl | (simp [errW_none, errW_some] <;> rfl) | (simp [*, errW_none, errW_some] <;> rfl), by repeat (first | (with_reducible first | exact HB.out | apply below_alloc | apply pw_below_drewN | apply below_drew1 | refine below_set ?_ GE101.out) | exact HB.out)⟩
  · rw [if_neg c2] at H
    have c2b0 : decide (0 < a0_1) = false := decide_eq_false c2
    clear c2
    obtain rfl := Option.some.inj H
    go_enter Tryd.func37, Tryd.ntmps37
    go_wp2_with (first | ((with_reducible refine gate_dst (N := 1) rfl ?_); refine box_event ?hg (N := 1) ?hd (cs := #[.int .i64 a0_0, .int .i64 a0_1]) (t := 24) ?hr ?_; (case hd => rfl); (case hg => rfl); (case hr => first | (go_simp; done) | (go_simp; rfl)); intro gb101 hg w11 hbox hb; have n0_ := Aside0.mk (below_step (by repeat (first | (with_reducible first | exact HB.out | apply below_alloc | apply pw_below_drewN | apply below_drew1) | exact HB.out)) hb); have n1_ := Aside0.mk (hbox); have n2_ := Aside0.mk ((by rw [hg]; exact (below_size (by repeat (first | (with_reducible first | exact HB.out | apply below_alloc | apply pw_below_drewN | apply below_drew1) | exact HB.out))) : w.heap.size ≤ gb101)); have n3_ := Aside0.mk ((by rw [hg]; exact (below_size (by repeat (first | (with_reducible first | exact HB.out | apply below_alloc | apply pw_below_drewN | apply below_drew1) | exact HB.out))) : w.heap.size ≤ gb101)); clear HB; have HB := n0_; have BK101 := n1_; have GW101 := n2_; have GE101 := n3_; clear n0_ n1_ n2_ n3_; clear hb hbox hg; have hcz12_0 : w11.cell? ⟨gb101, 0, none⟩ = some (.int .i64 a0_0) := (blk_cell BK101.out 0).trans rfl; have hcz12_1 : w11.cell? ⟨gb101, 1, none⟩ = some (.int .i64 a0_1) := (blk_cell BK101.out 1).trans rfl; have hfz12_0 := blk_frozen BK101.out 0; have hfz12_1 := blk_frozen BK101.out 1))
    repeat (go_quiet (first | ((with_reducible refine gate_dst (N := 1) rfl ?_); refine box_event ?hg (N := 1) ?hd (cs := #[.int .i64 a0_0, .int .i64 a0_1]) (t := 24) ?hr ?_; (case hd => rfl); (case hg => rfl); (case hr => first | (go_simp; done) | (go_simp; rfl)); intro gb101 hg w11 hbox hb; have n0_ := Aside0.mk (below_step (by repeat (first | (with_reducible first | exact HB.out | apply below_alloc | apply pw_below_drewN | apply below_drew1) | exact HB.out)) hb); have n1_ := Aside0.mk (hbox); have n2_ := Aside0.mk ((by rw [hg]; exact (below_size (by repeat (first | (with_reducible first | exact HB.out | apply below_alloc | apply pw_below_drewN | apply below_drew1) | exact HB.out))) : w.heap.size ≤ gb101)); have n3_ := Aside0.mk ((by rw [hg]; exact (below_size (by repeat (first | (with_reducible first | exact HB.out | apply below_alloc | apply pw_below_drewN | apply below_drew1) | exact HB.out))) : w.heap.size ≤ gb101)); clear HB; have HB := n0_; have BK101 := n1_; have GW101 := n2_; have GE101 := n3_; clear n0_ n1_ n2_ n3_; clear hb hbox hg; have hcz12_0 : w11.cell? ⟨gb101, 0, none⟩ = some (.int .i64 a0_0) := (blk_cell BK101.out 0).trans rfl; have hcz12_1 : w11.cell? ⟨gb101, 1, none⟩ = some (.int .i64 a0_1) := (blk_cell BK101.out 1).trans rfl; have hfz12_0 := blk_frozen BK101.out 0; have hfz12_1 := blk_frozen BK101.out 1)); try go_wp2_with (first | ((with_reducible refine gate_dst (N := 1) rfl ?_); refine box_event ?hg (N := 1) ?hd (cs := #[.int .i64 a0_0, .int .i64 a0_1]) (t := 24) ?hr ?_; (case hd => rfl); (case hg => rfl); (case hr => first | (go_simp; done) | (go_simp; rfl)); intro gb101 hg w11 hbox hb; have n0_ := Aside0.mk (below_step (by repeat (first | (with_reducible first | exact HB.out | apply below_alloc | apply pw_below_drewN | apply below_drew1) | exact HB.out)) hb); have n1_ := Aside0.mk (hbox); have n2_ := Aside0.mk ((by rw [hg]; exact (below_size (by repeat (first | (with_reducible first | exact HB.out | apply below_alloc | apply pw_below_drewN | apply below_drew1) | exact HB.out))) : w.heap.size ≤ gb101)); have n3_ := Aside0.mk ((by rw [hg]; exact (below_size (by repeat (first | (with_reducible first | exact HB.out | apply below_alloc | apply pw_below_drewN | apply below_drew1) | exact HB.out))) : w.heap.size ≤ gb101)); clear HB; have HB := n0_; have BK101 := n1_; have GW101 := n2_; have GE101 := n3_; clear n0_ n1_ n2_ n3_; clear hb hbox hg; have hcz12_0 : w11.cell? ⟨gb101, 0, none⟩ = some (.int .i64 a0_0) := (blk_cell BK101.out 0).trans rfl; have hcz12_1 : w11.cell? ⟨gb101, 1, none⟩ = some (.int .i64 a0_1) := (blk_cell BK101.out 1).trans rfl; have hfz12_0 := blk_frozen BK101.out 0; have hfz12_1 := blk_frozen BK101.out 1)))
    go_ret
    exact ⟨by first | rfl | (simp [errW_none, errW_some] <;> rfl) | (simp [*, errW_none, errW_some] <;> rfl), by repeat (first | (with_reducible first | exact HB.out | apply below_alloc | apply pw_below_drewN | apply below_drew1 | refine below_set ?_ GE101.out) | exact HB.out)⟩
def bits_Mul64.f (a0 : Int) (a1 : Int) : Option (Int × Int) := some (IntKind.u64.wrap ((IntKind.u64.wrap ((IntKind.u64.wrap ((a0 / 4294967296) * (a1 / 4294967296))) + ((IntKind.u64.wrap ((IntKind.u64.wrap ((a0 / 4294967296) * (Go.bits .and .u64 a1 4294967295))) + ((IntKind.u64.wrap ((Go.bits .and .u64 a0 4294967295) * (Go.bits .and .u64 a1 4294967295))) / 4294967296))) / 4294967296))) + ((IntKind.u64.wrap ((Go.bits .and .u64 (IntKind.u64.wrap ((IntKind.u64.wrap ((a0 / 4294967296) * (Go.bits .and .u64 a1 4294967295))) + ((IntKind.u64.wrap ((Go.bits .and .u64 a0 4294967295) * (Go.bits .and .u64 a1 4294967295))) / 4294967296))) 4294967295) + (IntKind.u64.wrap ((Go.bits .and .u64 a0 4294967295) * (a1 / 4294967296))))) / 4294967296)), IntKind.u64.wrap (a0 * a1))
def bits_Add64.f (a0 : Int) (a1 : Int) (a2 : Int) : Option (Int × Int) := if 0 ≤ a0 ∧ 0 ≤ a1 ∧ 0 ≤ a2 ∧ a2 ≤ 1 then some ((a0 + a1 + a2) % 18446744073709551616, (a0 + a1 + a2) / 18446744073709551616) else none
def bits_Sub64.f (a0 : Int) (a1 : Int) (a2 : Int) : Option (Int × Int) := if 0 ≤ a0 ∧ 0 ≤ a1 ∧ 0 ≤ a2 ∧ a2 ≤ 1 ∧ a1 < 18446744073709551616 then some ((a0 + 18446744073709551616 - a1 - a2) % 18446744073709551616, if a0 < a1 + a2 then 1 else 0) else none
end Go.Proofs.YtijhnmbegceonaaDoor.PRat
namespace Go.Proofs.YtijhnmbegceonaaDoor.PRat
open Go.RowKit Go.Proofs.YtijhnmbegceonaaDoorW.PrintWords Go.Proofs.YtijhnmbegceonaaDoorW.PrintLast Go.Proofs.YtijhnmbegceonaaDoorW.PrintMore
attribute [local go_sem] max2_int min2_int max_two min_two max_three min_three max_four min_four
set_option linter.unusedVariables false
set_option linter.unusedSimpArgs false
mutual
def rat_sum.j0 : Nat → Int → Int → Int → Int → Bool → Bool → Bool → Option (Int × Int × Bool)
  | 0, _, _, _, _, _, _, _ => none
  | k + 1, x11, x12, x13, x14, x15, x16, x82 => if x82 = true then (rat_sum.j1 k x13 x14 x11 x12 x16) else (rat_sum.j1 k x11 x12 x13 x14 x15)
def rat_sum.j1 : Nat → Int → Int → Int → Int → Bool → Option (Int × Int × Bool)
  | 0, _, _, _, _, _ => none
  | k + 1, x11, x12, x13, x14, x15 => (bits_Sub64.f x12 x14 0).bind fun bt117 => ((bits_Sub64.f x11 x13 bt117.2).bind fun bt119 => (some (bt119.1, bt117.1, x15)))
end
def rat_sum.f (k : Nat) (a0 : Int) (a1 : Int) (a2 : Int) (a3 : Int) : Option (Int × Int × Bool) := (rat_size.f a0).bind fun t105 => ((rat_size.f a1).bind fun t106 => ((bits_Mul64.f t105 t106).bind fun bt107 => ((rat_size.f a2).bind fun t109 => ((rat_size.f a3).bind fun t110 => ((bits_Mul64.f t109 t110).bind fun bt111 => (if (((decide (a0 < 0)) != (decide (a1 < 0))) == ((decide (a2 < 0)) != (decide (a3 < 0)))) = true then ((bits_Add64.f bt107.2 bt111.2 0).bind fun bt113 => ((bits_Add64.f bt107.1 bt111.1 bt113.2).bind fun bt115 => (some (bt115.1, bt113.1, ((decide (a0 < 0)) != (decide (a1 < 0))))))) else (if bt107.1 < bt111.1 then (rat_sum.j0 k bt107.1 bt107.2 bt111.1 bt111.2 ((decide (a0 < 0)) != (decide (a1 < 0))) ((decide (a2 < 0)) != (decide (a3 < 0))) true) else (if bt107.1 = bt111.1 then (rat_sum.j0 k bt107.1 bt107.2 bt111.1 bt111.2 ((decide (a0 < 0)) != (decide (a1 < 0))) ((decide (a2 < 0)) != (decide (a3 < 0))) (decide (bt107.2 < bt111.2))) else (rat_sum.j0 k bt107.1 bt107.2 bt111.1 bt111.2 ((decide (a0 < 0)) != (decide (a1 < 0))) ((decide (a2 < 0)) != (decide (a3 < 0))) false)))))))))
end Go.Proofs.YtijhnmbegceonaaDoor.PRat
namespace Go.Proofs.YtijhnmbegceonaaDoor.PRat
open Go.RowKit Go.Proofs.YtijhnmbegceonaaDoorW.PrintWords Go.Proofs.YtijhnmbegceonaaDoorW.PrintLast Go.Proofs.YtijhnmbegceonaaDoorW.PrintMore
attribute [local go_sem] max2_int min2_int max_two min_two max_three min_three max_four min_four
set_option linter.unusedVariables false
set_option linter.unusedSimpArgs false
mutual
def bits_Len64.j0 : Nat → Int → Int → Option (Int)
  | 0, _, _ => none
  | k + 1, x0, x2 => if x0 ≥ 65536 then (bits_Len64.j1 k (x0 / 65536) (wrap64 (x2 + 16))) else (bits_Len64.j1 k x0 x2)
def bits_Len64.j1 : Nat → Int → Int → Option (Int)
  | 0, _, _ => none
  | k + 1, x0, x2 => if x0 ≥ 256 then (if 0 ≤ ((x0 / 256) % 256) then (if ((x0 / 256) % 256) < 256 then (some (wrap64 ((wrap64 (x2 + 8)) + (wrap64 (bt (⟨#[0, 1, 2, 2, 3, 3, 3, 3, 4, 4, 4, 4, 4, 4, 4, 4, 5, 5, 5, 5, 5, 5, 5, 5, 5, 5, 5, 5, 5, 5, 5, 5, 6, 6, 6, 6, 6, 6, 6, 6, 6, 6, 6, 6, 6, 6, 6, 6, 6, 6, 6, 6, 6, 6, 6, 6, 6, 6, 6, 6, 6, 6, 6, 6, 7, 7, 7, 7, 7, 7, 7, 7, 7, 7, 7, 7, 7, 7, 7, 7, 7, 7, 7, 7, 7, 7, 7, 7, 7, 7, 7, 7, 7, 7, 7, 7, 7, 7, 7, 7, 7, 7, 7, 7, 7, 7, 7, 7, 7, 7, 7, 7, 7, 7, 7, 7, 7, 7, 7, 7, 7, 7, 7, 7, 7, 7, 7, 7, 8, 8, 8, 8, 8, 8, 8, 8, 8, 8, 8, 8, 8, 8, 8, 8, 8, 8, 8, 8, 8, 8, 8, 8, 8, 8, 8, 8, 8, 8, 8, 8, 8, 8, 8, 8, 8, 8, 8, 8, 8, 8, 8, 8, 8, 8, 8, 8, 8, 8, 8, 8, 8, 8, 8, 8, 8, 8, 8, 8, 8, 8, 8, 8, 8, 8, 8, 8, 8, 8, 8, 8, 8, 8, 8, 8, 8, 8, 8, 8, 8, 8, 8, 8, 8, 8, 8, 8, 8, 8, 8, 8, 8, 8, 8, 8, 8, 8, 8, 8, 8, 8, 8, 8, 8, 8, 8, 8, 8, 8, 8, 8, 8, 8, 8, 8, 8, 8, 8, 8, 8, 8, 8, 8, 8, 8, 8, 8]⟩ : ByteArray) ((x0 / 256) % 256)))))) else (none)) else (none)) else (if 0 ≤ ((x0) % 256) then (if ((x0) % 256) < 256 then (some (wrap64 (x2 + (wrap64 (bt (⟨#[0, 1, 2, 2, 3, 3, 3, 3, 4, 4, 4, 4, 4, 4, 4, 4, 5, 5, 5, 5, 5, 5, 5, 5, 5, 5, 5, 5, 5, 5, 5, 5, 6, 6, 6, 6, 6, 6, 6, 6, 6, 6, 6, 6, 6, 6, 6, 6, 6, 6, 6, 6, 6, 6, 6, 6, 6, 6, 6, 6, 6, 6, 6, 6, 7, 7, 7, 7, 7, 7, 7, 7, 7, 7, 7, 7, 7, 7, 7, 7, 7, 7, 7, 7, 7, 7, 7, 7, 7, 7, 7, 7, 7, 7, 7, 7, 7, 7, 7, 7, 7, 7, 7, 7, 7, 7, 7, 7, 7, 7, 7, 7, 7, 7, 7, 7, 7, 7, 7, 7, 7, 7, 7, 7, 7, 7, 7, 7, 8, 8, 8, 8, 8, 8, 8, 8, 8, 8, 8, 8, 8, 8, 8, 8, 8, 8, 8, 8, 8, 8, 8, 8, 8, 8, 8, 8, 8, 8, 8, 8, 8, 8, 8, 8, 8, 8, 8, 8, 8, 8, 8, 8, 8, 8, 8, 8, 8, 8, 8, 8, 8, 8, 8, 8, 8, 8, 8, 8, 8, 8, 8, 8, 8, 8, 8, 8, 8, 8, 8, 8, 8, 8, 8, 8, 8, 8, 8, 8, 8, 8, 8, 8, 8, 8, 8, 8, 8, 8, 8, 8, 8, 8, 8, 8, 8, 8, 8, 8, 8, 8, 8, 8, 8, 8, 8, 8, 8, 8, 8, 8, 8, 8, 8, 8, 8, 8, 8, 8, 8, 8, 8, 8, 8, 8, 8, 8]⟩ : ByteArray) ((x0) % 256)))))) else (none)) else (none))
end
def bits_Len64.f (k : Nat) (a0 : Int) : Option (Int) := if a0 ≥ 4294967296 then (bits_Len64.j0 k (a0 / 4294967296) 32) else (bits_Len64.j0 k a0 0)
def bits_LeadingZeros64.f (k : Nat) (a0 : Int) : Option (Int) := (bits_Len64.f k a0).bind fun t121 => (some (wrap64 (64 - t121)))
end Go.Proofs.YtijhnmbegceonaaDoor.PRat
namespace Go.Proofs.YtijhnmbegceonaaDoor.PRat
open Go.RowKit Go.Proofs.YtijhnmbegceonaaDoorW.PrintWords Go.Proofs.YtijhnmbegceonaaDoorW.PrintLast Go.Proofs.YtijhnmbegceonaaDoorW.PrintMore
attribute [local go_sem] max2_int min2_int max_two min_two max_three min_three max_four min_four
set_option linter.unusedVariables false
set_option linter.unusedSimpArgs false
mutual
def bits_Div64.j2 : Nat → Int → Int → Int → Int → Int → Int → Int → Int → Option (Int × Int)
  | 0, _, _, _, _, _, _, _, _ => none
  | k + 1, x2, x8, x9, x10, x11, x13, x14, x15 => if x9 = 0 then (none) else (bits_Div64.l1 k x2 x8 x9 x10 x14 x15 (IntKind.u64.wrap ((IntKind.u64.wrap ((IntKind.u64.wrap ((IntKind.u64.wrap (x11 * 4294967296)) + x13)) - (IntKind.u64.wrap (x15 * x2)))) - (IntKind.u64.wrap ((IntKind.u64.wrap (Int.tdiv (IntKind.u64.wrap ((IntKind.u64.wrap ((IntKind.u64.wrap (x11 * 4294967296)) + x13)) - (IntKind.u64.wrap (x15 * x2)))) x9)) * x9)))) (IntKind.u64.wrap ((IntKind.u64.wrap ((IntKind.u64.wrap (x11 * 4294967296)) + x13)) - (IntKind.u64.wrap (x15 * x2)))) (IntKind.u64.wrap (Int.tdiv (IntKind.u64.wrap ((IntKind.u64.wrap ((IntKind.u64.wrap (x11 * 4294967296)) + x13)) - (IntKind.u64.wrap (x15 * x2)))) x9)))
def bits_Div64.l1 : Nat → Int → Int → Int → Int → Int → Int → Int → Int → Int → Option (Int × Int)
  | 0, _, _, _, _, _, _, _, _, _ => none
  | k + 1, x2, x8, x9, x10, x14, x15, x16, x17, x18 => if x18 ≥ 4294967296 then (bits_Div64.j4 k x2 x8 x9 x10 x14 x15 x16 x17 x18 true) else (bits_Div64.j4 k x2 x8 x9 x10 x14 x15 x16 x17 x18 (decide ((IntKind.u64.wrap (x18 * x10)) > (IntKind.u64.wrap ((IntKind.u64.wrap (4294967296 * x16)) + x14)))))
def bits_Div64.j4 : Nat → Int → Int → Int → Int → Int → Int → Int → Int → Int → Bool → Option (Int × Int)
  | 0, _, _, _, _, _, _, _, _, _, _ => none
  | k + 1, x2, x8, x9, x10, x14, x15, x16, x17, x18, x113 => if x113 = true then (if (IntKind.u64.wrap (x16 + x9)) ≥ 4294967296 then (if 0 ≤ x8 then (some (IntKind.u64.wrap ((IntKind.u64.wrap (x15 * 4294967296)) + (IntKind.u64.wrap (x18 - 1))), shr .u64 (IntKind.u64.wrap ((IntKind.u64.wrap ((IntKind.u64.wrap (x17 * 4294967296)) + x14)) - (IntKind.u64.wrap ((IntKind.u64.wrap (x18 - 1)) * x2)))) x8)) else (none)) else (bits_Div64.l1 k x2 x8 x9 x10 x14 x15 (IntKind.u64.wrap (x16 + x9)) x17 (IntKind.u64.wrap (x18 - 1)))) else (if 0 ≤ x8 then (some (IntKind.u64.wrap ((IntKind.u64.wrap (x15 * 4294967296)) + x18), shr .u64 (IntKind.u64.wrap ((IntKind.u64.wrap ((IntKind.u64.wrap (x17 * 4294967296)) + x14)) - (IntKind.u64.wrap (x18 * x2)))) x8)) else (none))
def bits_Div64.l0 : Nat → Int → Int → Int → Int → Int → Int → Int → Int → Int → Option (Int × Int)
  | 0, _, _, _, _, _, _, _, _, _ => none
  | k + 1, x2, x8, x9, x10, x11, x13, x14, x15, x16 => if x15 ≥ 4294967296 then (bits_Div64.j1 k x2 x8 x9 x10 x11 x13 x14 x15 x16 true) else (bits_Div64.j1 k x2 x8 x9 x10 x11 x13 x14 x15 x16 (decide ((IntKind.u64.wrap (x15 * x10)) > (IntKind.u64.wrap ((IntKind.u64.wrap (4294967296 * x16)) + x13)))))
def bits_Div64.j1 : Nat → Int → Int → Int → Int → Int → Int → Int → Int → Int → Bool → Option (Int × Int)
  | 0, _, _, _, _, _, _, _, _, _, _ => none
  | k + 1, x2, x8, x9, x10, x11, x13, x14, x15, x16, x78 => if x78 = true then (if (IntKind.u64.wrap (x16 + x9)) ≥ 4294967296 then (bits_Div64.j2 k x2 x8 x9 x10 x11 x13 x14 (IntKind.u64.wrap (x15 - 1))) else (bits_Div64.l0 k x2 x8 x9 x10 x11 x13 x14 (IntKind.u64.wrap (x15 - 1)) (IntKind.u64.wrap (x16 + x9)))) else (bits_Div64.j2 k x2 x8 x9 x10 x11 x13 x14 x15)
end
def bits_Div64.f (k : Nat) (a0 : Int) (a1 : Int) (a2 : Int) : Option (Int × Int) := if a2 = 0 then (none) else (if a2 ≤ a0 then (none) else (if a0 = 0 then (some (IntKind.u64.wrap (Int.tdiv a1 a2), Int.tmod a1 a2)) else ((bits_LeadingZeros64.f k a2).bind fun t122 => (if 0 ≤ (IntKind.u64.wrap (t122)) then (if 0 ≤ (IntKind.u64.wrap (64 - (IntKind.u64.wrap (t122)))) then (if ((shl .u64 a2 (IntKind.u64.wrap (t122))) / 4294967296) = 0 then (none) else (bits_Div64.l0 k (shl .u64 a2 (IntKind.u64.wrap (t122))) (IntKind.u64.wrap (t122)) ((shl .u64 a2 (IntKind.u64.wrap (t122))) / 4294967296) (Go.bits .and .u64 (shl .u64 a2 (IntKind.u64.wrap (t122))) 4294967295) (Go.bits .or .u64 (shl .u64 a0 (IntKind.u64.wrap (t122))) (shr .u64 a1 (IntKind.u64.wrap (64 - (IntKind.u64.wrap (t122)))))) ((shl .u64 a1 (IntKind.u64.wrap (t122))) / 4294967296) (Go.bits .and .u64 (shl .u64 a1 (IntKind.u64.wrap (t122))) 4294967295) (IntKind.u64.wrap (Int.tdiv (Go.bits .or .u64 (shl .u64 a0 (IntKind.u64.wrap (t122))) (shr .u64 a1 (IntKind.u64.wrap (64 - (IntKind.u64.wrap (t122)))))) ((shl .u64 a2 (IntKind.u64.wrap (t122))) / 4294967296))) (IntKind.u64.wrap ((Go.bits .or .u64 (shl .u64 a0 (IntKind.u64.wrap (t122))) (shr .u64 a1 (IntKind.u64.wrap (64 - (IntKind.u64.wrap (t122)))))) - (IntKind.u64.wrap ((IntKind.u64.wrap (Int.tdiv (Go.bits .or .u64 (shl .u64 a0 (IntKind.u64.wrap (t122))) (shr .u64 a1 (IntKind.u64.wrap (64 - (IntKind.u64.wrap (t122)))))) ((shl .u64 a2 (IntKind.u64.wrap (t122))) / 4294967296))) * ((shl .u64 a2 (IntKind.u64.wrap (t122))) / 4294967296))))))) else (none)) else (none)))))
end Go.Proofs.YtijhnmbegceonaaDoor.PRat
namespace Go.Proofs.YtijhnmbegceonaaDoor.PRat
open Go.RowKit Go.Proofs.YtijhnmbegceonaaDoorW.PrintWords Go.Proofs.YtijhnmbegceonaaDoorW.PrintLast Go.Proofs.YtijhnmbegceonaaDoorW.PrintMore
attribute [local go_sem] max2_int min2_int max_two min_two max_three min_three max_four min_four
set_option linter.unusedVariables false
set_option linter.unusedSimpArgs false
def bits_Rem64.f (k : Nat) (a0 : Int) (a1 : Int) (a2 : Int) : Option (Int) := if a2 = 0 then (none) else ((bits_Div64.f k (Int.tmod a0 a2) a1 a2).bind fun bt123 => (some bt123.2))
def rat_product.f (a0 : Int) (a1 : Int) : Option (Int × Bool) := (bits_Mul64.f a0 a1).bind fun bt125 => (some (bt125.2, (bt125.1 == 0)))
def rat_put.j0 : Nat → Int → Int → Bool → Bool → Option (Int × Int × Int)
  | 0, _, _, _, _ => none
  | k + 1, x0, x1, x2, x14 => if x14 = true then (some (0, 0, 3)) else (if x2 = true then (some (wrap64 (-(wrap64 (x0))), wrap64 (x1), 0)) else (some (wrap64 (x0), wrap64 (x1), 0)))
def rat_put.f (k : Nat) (a0 : Int) (a1 : Int) (a2 : Bool) : Option (Int × Int × Int) := if a0 > 9223372036854775807 then (rat_put.j0 k a0 a1 a2 true) else (rat_put.j0 k a0 a1 a2 (decide (a1 > 9223372036854775807)))
end Go.Proofs.YtijhnmbegceonaaDoor.PRat
namespace Go.Proofs.YtijhnmbegceonaaDoor.PRat
open Go.RowKit Go.Proofs.YtijhnmbegceonaaDoorW.PrintWords Go.Proofs.YtijhnmbegceonaaDoorW.PrintLast Go.Proofs.YtijhnmbegceonaaDoorW.PrintMore
attribute [local go_sem] max2_int min2_int max_two min_two max_three min_three max_four min_four
set_option linter.unusedVariables false
set_option linter.unusedSimpArgs false
def rat_Add.j0 : Nat → Bool → Int → Int → Int → Int → Option (Int × Int × Int)
  | 0, _, _, _, _, _ => none
  | k + 1, x22, x130000, x130001, x131000, x131001 => if x22 = true then (some (0, 0, 2)) else ((rat_size.f x130001).bind fun t134 => ((rat_size.f x131001).bind fun t135 => ((rat_common.f k t134 t135).bind fun t136 => (if (wrap64 (t136)) = 0 then (none) else ((rat_sum.f k x130000 (wrap64 (Int.tdiv x131001 (wrap64 (t136)))) x131000 (wrap64 (Int.tdiv x130001 (wrap64 (t136))))).bind fun bt137 => (if (Go.bits .or .u64 bt137.1 bt137.2.1) = 0 then (some (0, 1, 0)) else ((bits_Rem64.f k bt137.1 bt137.2.1 t136).bind fun t140 => ((rat_common.f k t136 t140).bind fun t141 => (if bt137.1 ≥ t141 then (some (0, 0, 3)) else ((bits_Div64.f k bt137.1 bt137.2.1 t141).bind fun bt142 => (if t136 = 0 then (none) else (if t141 = 0 then (none) else ((rat_product.f (IntKind.u64.wrap (Int.tdiv t134 t136)) (IntKind.u64.wrap (Int.tdiv t135 t141))).bind fun bt144 => (if bt144.2 = true then ((rat_put.f k bt142.1 bt144.1 bt137.2.2).bind fun bt146 => (some (bt146.1, bt146.2.1, bt146.2.2))) else (some (0, 0, 3))))))))))))))))
def rat_Add.f (k : Nat) (a0_0 : Int) (a0_1 : Int) (a1_0 : Int) (a1_1 : Int) : Option (Int × Int × Int) := (rat_Right.f k a0_0 a0_1).bind fun t132 => (if t132 = true then ((rat_Right.f k a1_0 a1_1).bind fun t133 => (rat_Add.j0 k (!t133) a0_0 a0_1 a1_0 a1_1)) else (rat_Add.j0 k true a0_0 a0_1 a1_0 a1_1))
end Go.Proofs.YtijhnmbegceonaaDoor.PRat
namespace Go.Proofs.YtijhnmbegceonaaDoor.PRat
open Go Go.RowKit Go.Proofs.YtijhnmbegceonaaDoorW.PrintWords Go.Proofs.YtijhnmbegceonaaDoorW.PrintLast Go.Proofs.YtijhnmbegceonaaDoorW.PrintMore
open BallQ (In64 Right q out fits put)
theorem common_ev (b : Nat) : ∀ a : Nat, Ev (fun k => rat_common.f k (a : Int) (b : Int)) ((a.gcd b : Nat) : Int) := by
  unfold rat_common.f
  induction b using Nat.strongRecOn with
  | _ b ih =>
    intro a
    refine Ev.step (fun k => by rw [rat_common.l0]) ?_
    by_cases h : b = 0
    · subst h
      refine Ev_pos rfl (Ev_some fun _ => ?_)
      simp
    · refine Ev_neg (by omega) ?_
      have e : Int.tmod (a : Int) (b : Int) = ((a % b : Nat) : Int) := by rw [Int.tmod_eq_emod_of_nonneg (by omega)]; omega
      rw [e]
      refine Ev_cast (ih (a % b) (Nat.mod_lt _ (by omega)) b) ?_
      rw [Nat.gcd_comm b, ← Nat.gcd_rec, Nat.gcd_comm]
theorem size_eq (a : Int) (h : In64 a) : rat_size.f a = some ((a.natAbs : Nat) : Int) := by
  obtain ⟨h0, h1⟩ := h
  unfold rat_size.f
  by_cases hn : a < 0
  · rw [if_pos hn, wu64, wu64]; congr 1; omega
  · rw [if_neg hn, wu64]; congr 1; omega
theorem right_ev (n d : Int) (hn : In64 n) (hd : In64 d) : Ev (fun k => rat_Right.f k n d) (decide (BallQ.Right n d)) := by
  unfold rat_Right.f
  by_cases h0 : d > 0
  · refine Ev_pos h0 ?_
    by_cases h1 : n = -9223372036854775808
    · refine Ev_pos h1 (Ev_some fun _ => ?_)
      have : ¬ BallQ.Right n d := fun h => h.2.1 h1
      rw [decide_eq_false this]
    · refine Ev_neg h1 (Ev_bnd (size_eq n hn) (Ev_bnd (size_eq d hd) (Ev.bind (common_ev _ _) (Ev_some fun _ => ?_))))
      congr 1
      by_cases hg : n.natAbs.gcd d.natAbs = 1
      · rw [decide_eq_true (show BallQ.Right n d from ⟨h0, h1, hg⟩), hg]; rfl
      · rw [decide_eq_false (show ¬ BallQ.Right n d from fun h => hg h.2.2)]
        simp only [beq_eq_false_iff_ne, ne_eq]
        omega
  · refine Ev_neg h0 (Ev_some fun _ => ?_)
    have : ¬ BallQ.Right n d := fun h => h0 h.1
    rw [decide_eq_false this]
theorem wraps_u64 (n : Int) (h₀ : 0 ≤ n) (h₁ : n < 2 ^ 64) : IntKind.u64.wrap n = n := by rw [wu64]; omega
theorem and32 (x : Nat) (h : x < 18446744073709551616) : Go.bits .and .u64 (x : Int) 4294967295 = ((x % 4294967296 : Nat) : Int) := by
  have := bits_mask .u64 64 (by decide) wraps_u64 32 (by decide) (x : Int) (by omega) (by omega)
  have e : ((2 : Int) ^ 32 - 1) = 4294967295 := by decide
  rw [e] at this
  rw [this]; omega
theorem mul_split (x1 x0 y1 y0 B : Nat) (hB : 0 < B) : (x1 * B + x0) * (y1 * B + y0) / (B * B) = x1 * y1 + (x1 * y0 + x0 * y0 / B) / B + ((x1 * y0 + x0 * y0 / B) % B + x0 * y1) / B := by
  have h1 := Nat.div_add_mod (x0 * y0) B
  have h2 := Nat.div_add_mod (x1 * y0 + x0 * y0 / B) B
  generalize hw : x0 * y0 / B = w at *
  generalize hr : x0 * y0 % B = r at *
  generalize hu : (x1 * y0 + w) / B = u at *
  generalize hv : (x1 * y0 + w) % B = v at *
  have hrB : r < B := by rw [← hr]; exact Nat.mod_lt _ hB
  have h3 := Nat.div_add_mod (v + x0 * y1) B
  generalize hs : (v + x0 * y1) / B = s at *
  have htB : (v + x0 * y1) % B < B := Nat.mod_lt _ hB
  generalize (v + x0 * y1) % B = t at *
  have e : (x1 * B + x0) * (y1 * B + y0) = (x1 * y1 + u + s) * (B * B) + (t * B + r) := by
    have a1 : (x1 * B + x0) * (y1 * B + y0) = x1 * y1 * (B * B) + (x1 * y0) * B + (x0 * y1) * B + x0 * y0 := by grind
    have a2 : (x1 * y0 + w) * B = (B * u + v) * B := by rw [h2]
    have a3 : (v + x0 * y1) * B = (B * s + t) * B := by rw [h3]
    rw [a1, ← h1]
    have b1 : (x1 * y0) * B + w * B = B * u * B + v * B := by rw [← Nat.add_mul, ← Nat.add_mul]; exact a2
    have b2 : v * B + x0 * y1 * B = B * s * B + t * B := by rw [← Nat.add_mul, ← Nat.add_mul]; exact a3
    have c1 : (x1 * y1 + u + s) * (B * B) = x1 * y1 * (B * B) + B * u * B + B * s * B := by grind
    have c2 : B * w = w * B := Nat.mul_comm _ _
    rw [c1, c2]
    omega
  rw [e]
  have hlt : t * B + r < B * B := by
    have : (t + 1) * B ≤ B * B := Nat.mul_le_mul_right _ htB
    rw [Nat.add_mul] at this; omega
  rw [Nat.mul_comm, Nat.mul_add_div (Nat.mul_pos hB hB), Nat.div_eq_of_lt hlt, Nat.add_zero]
theorem mul_lt {a b A B : Nat} (ha : a < A) (hb : b < B) : a * b ≤ (A - 1) * (B - 1) := Nat.mul_le_mul (by omega) (by omega)
theorem mul64_eq (a b : Nat) (ha : a < 18446744073709551616) (hb : b < 18446744073709551616) : bits_Mul64.f (a : Int) (b : Int) = some (((a * b / 18446744073709551616 : Nat) : Int), ((a * b % 18446744073709551616 : Nat) : Int)) := by
  have hs := mul_split (a / 4294967296) (a % 4294967296) (b / 4294967296) (b % 4294967296) 4294967296 (by omega)
  rw [Nat.div_add_mod', Nat.div_add_mod'] at hs
  have ea : (a : Int) / 4294967296 = ((a / 4294967296 : Nat) : Int) := by omega
  have eb : (b : Int) / 4294967296 = ((b / 4294967296 : Nat) : Int) := by omega
  unfold bits_Mul64.f
  rw [and32 a ha, and32 b hb, ea, eb]
  have a1 : a / 4294967296 < 4294967296 := by omega
  have a0 : a % 4294967296 < 4294967296 := by omega
  have b1 : b / 4294967296 < 4294967296 := by omega
  have b0 : b % 4294967296 < 4294967296 := by omega
  have elo : IntKind.u64.wrap ((a : Int) * (b : Int)) = ((a * b % 18446744073709551616 : Nat) : Int) := by rw [wu64]; omega
  rw [elo, hs]
  generalize a / 4294967296 = x1 at *
  generalize a % 4294967296 = x0 at *
  generalize b / 4294967296 = y1 at *
  generalize b % 4294967296 = y0 at *
  have m1 := mul_lt a1 b1
  have m2 := mul_lt a1 b0
  have m3 := mul_lt a0 b0
  have m4 := mul_lt a0 b1
  have w1 : IntKind.u64.wrap ((x0 : Int) * (y0 : Int)) = ((x0 * y0 : Nat) : Int) := by rw [wu64, ← Int.natCast_mul]; omega
  have w2 : IntKind.u64.wrap ((x1 : Int) * (y0 : Int)) = ((x1 * y0 : Nat) : Int) := by rw [wu64, ← Int.natCast_mul]; omega
  have w3 : IntKind.u64.wrap ((x0 : Int) * (y1 : Int)) = ((x0 * y1 : Nat) : Int) := by rw [wu64, ← Int.natCast_mul]; omega
  have w4 : IntKind.u64.wrap ((x1 : Int) * (y1 : Int)) = ((x1 * y1 : Nat) : Int) := by rw [wu64, ← Int.natCast_mul]; omega
  rw [w1, w2, w3, w4]
  generalize x0 * y0 = p00 at *
  generalize x1 * y0 = p10 at *
  generalize x0 * y1 = p01 at *
  generalize x1 * y1 = p11 at *
  have e1 : IntKind.u64.wrap ((p10 : Int) + (p00 : Int) / 4294967296) = ((p10 + p00 / 4294967296 : Nat) : Int) := by rw [wu64]; omega
  have et : p10 + p00 / 4294967296 < 18446744073709551616 := by omega
  rw [e1, and32 _ et]
  have e2 : IntKind.u64.wrap (((p10 + p00 / 4294967296) % 4294967296 : Nat) + (p01 : Int)) = (((p10 + p00 / 4294967296) % 4294967296 + p01 : Nat) : Int) := by rw [wu64]; omega
  rw [e2]
  have e3 : IntKind.u64.wrap ((p11 : Int) + ((p10 + p00 / 4294967296 : Nat) : Int) / 4294967296) = ((p11 + (p10 + p00 / 4294967296) / 4294967296 : Nat) : Int) := by rw [wu64]; omega
  rw [e3]
  have e4 : IntKind.u64.wrap (((p11 + (p10 + p00 / 4294967296) / 4294967296 : Nat) : Int) + (((p10 + p00 / 4294967296) % 4294967296 + p01 : Nat) : Int) / 4294967296) = ((p11 + (p10 + p00 / 4294967296) / 4294967296 + ((p10 + p00 / 4294967296) % 4294967296 + p01) / 4294967296 : Nat) : Int) := by rw [wu64]; omega
  rw [e4]
theorem add64_eq (x y c : Nat) (hc : c ≤ 1) : bits_Add64.f (x : Int) (y : Int) (c : Int) = some ((((x + y + c) % 18446744073709551616 : Nat) : Int), (((x + y + c) / 18446744073709551616 : Nat) : Int)) := by
  unfold bits_Add64.f
  rw [if_pos (by omega)]
  congr 2
theorem sub64_eq (x y b : Nat) (hb : b ≤ 1) (hy : y < 18446744073709551616) : bits_Sub64.f (x : Int) (y : Int) (b : Int) = some ((((x + 18446744073709551616 - y - b) % 18446744073709551616 : Nat) : Int), ((if x < y + b then 1 else 0 : Nat) : Int)) := by
  unfold bits_Sub64.f
  rw [if_pos (by omega)]
  congr 2
  · omega
  · by_cases h : x < y + b
    · rw [if_pos h, if_pos (by omega)]; rfl
    · rw [if_neg h, if_neg (by omega)]; rfl
theorem signed_mul (a b : Int) : a * b = if (decide (a < 0) != decide (b < 0)) = true then -((a.natAbs * b.natAbs : Nat) : Int) else ((a.natAbs * b.natAbs : Nat) : Int) := by
  rcases Int.natAbs_eq a with ea | ea <;> rcases Int.natAbs_eq b with eb | eb
  all_goals
    generalize a.natAbs = m at *
    generalize b.natAbs = n at *
    subst ea eb
    simp only [Int.natCast_mul]
  · have h1 : ¬ ((m : Int) < 0) := by omega
    have h2 : ¬ ((n : Int) < 0) := by omega
    simp [h1, h2]
  · have h1 : ¬ ((m : Int) < 0) := by omega
    by_cases h2 : -(n : Int) < 0
    · simp [h1]; rw [if_pos (by omega), Int.mul_neg]
    · have : n = 0 := by omega
      subst this; simp
  · have h1 : ¬ ((n : Int) < 0) := by omega
    by_cases h2 : -(m : Int) < 0
    · simp [h1]; rw [if_pos (by omega), Int.neg_mul]
    · have : m = 0 := by omega
      subst this; simp
  · by_cases h1 : -(m : Int) < 0 <;> by_cases h2 : -(n : Int) < 0
    · simp; rw [if_pos (by constructor <;> intro <;> omega), Int.neg_mul_neg]
    · have : n = 0 := by omega
      subst this; simp
    · have : m = 0 := by omega
      subst this; simp
    · have : m = 0 := by omega
      subst this; simp
theorem natAbs_le {a : Int} (h : In64 a) : a.natAbs ≤ 9223372036854775808 := by have := h.1; have := h.2; omega
theorem diff1_ev (P Q : Nat) (hQP : Q ≤ P) (hP : P < 340282366920938463463374607431768211456) (m : Bool) :
    Ev (fun k => rat_sum.j1 k ((P / 18446744073709551616 : Nat) : Int) ((P % 18446744073709551616 : Nat) : Int) ((Q / 18446744073709551616 : Nat) : Int) ((Q % 18446744073709551616 : Nat) : Int) m) ((((P - Q) / 18446744073709551616 : Nat) : Int), (((P - Q) % 18446744073709551616 : Nat) : Int), m) := by
  refine Ev.step (fun k => by rw [rat_sum.j1]) ?_
  refine Ev_bnd (sub64_eq (P % 18446744073709551616) (Q % 18446744073709551616) 0 (by omega) (by omega)) (Ev_bnd (sub64_eq (P / 18446744073709551616) (Q / 18446744073709551616) (if P % 18446744073709551616 < Q % 18446744073709551616 + 0 then 1 else 0) (by split <;> omega) (by omega)) (Ev_some fun _ => ?_))
  have e1 : (P / 18446744073709551616 + 18446744073709551616 - Q / 18446744073709551616 - (if P % 18446744073709551616 < Q % 18446744073709551616 + 0 then 1 else 0)) % 18446744073709551616 = (P - Q) / 18446744073709551616 := by split <;> omega
  have e2 : (P % 18446744073709551616 + 18446744073709551616 - Q % 18446744073709551616 - 0) % 18446744073709551616 = (P - Q) % 18446744073709551616 := by omega
  rw [e1, e2]
theorem diff_ev (P Q : Nat) (hP : P < 340282366920938463463374607431768211456) (hQ : Q < 340282366920938463463374607431768211456) (m n : Bool) (c : Bool) (hc : c = decide (P < Q)) :
    Ev (fun k => rat_sum.j0 k ((P / 18446744073709551616 : Nat) : Int) ((P % 18446744073709551616 : Nat) : Int) ((Q / 18446744073709551616 : Nat) : Int) ((Q % 18446744073709551616 : Nat) : Int) m n c)
      ((((if P < Q then Q - P else P - Q) / 18446744073709551616 : Nat) : Int), (((if P < Q then Q - P else P - Q) % 18446744073709551616 : Nat) : Int), if P < Q then n else m) := by
  subst hc
  refine Ev.step (fun k => by rw [rat_sum.j0]) ?_
  by_cases h : P < Q
  · refine Ev_pos (decide_eq_true h) ?_
    rw [if_pos h, if_pos h]
    exact diff1_ev Q P (by omega) hQ n
  · refine Ev_neg (by simpa using h) ?_
    rw [if_neg h, if_neg h]
    exact diff1_ev P Q (by omega) hP m
theorem sum_ev (a b c d : Int) (ha : In64 a) (hb : In64 b) (hc : In64 c) (hd : In64 d) (v : Int) (hv : v = a * b + c * d) :
    ∃ m : Bool, Ev (fun k => rat_sum.f k a b c d) (((v.natAbs / 18446744073709551616 : Nat) : Int), ((v.natAbs % 18446744073709551616 : Nat) : Int), m) ∧ (v ≠ 0 → m = decide (v < 0)) := by
  have ka := natAbs_le ha
  have kb := natAbs_le hb
  have kc := natAbs_le hc
  have kd := natAbs_le hd
  have hP : a.natAbs * b.natAbs ≤ 9223372036854775808 * 9223372036854775808 := Nat.mul_le_mul ka kb
  have hQ : c.natAbs * d.natAbs ≤ 9223372036854775808 * 9223372036854775808 := Nat.mul_le_mul kc kd
  have m1 := mul64_eq a.natAbs b.natAbs (by omega) (by omega)
  have m2 := mul64_eq c.natAbs d.natAbs (by omega) (by omega)
  have s1 := signed_mul a b
  have s2 := signed_mul c d
  rw [s1, s2] at hv
  unfold rat_sum.f
  rw [size_eq a ha, size_eq b hb, size_eq c hc, size_eq d hd]
  simp only [Option.bind_some, m1, m2]
  generalize (decide (a < 0) != decide (b < 0)) = x at *
  generalize (decide (c < 0) != decide (d < 0)) = y at *
  generalize a.natAbs * b.natAbs = P at *
  generalize c.natAbs * d.natAbs = Q at *
  clear m1 m2 s1 s2 ha hb hc hd ka kb kc kd
  by_cases hxy : x = y
  · subst hxy
    refine ⟨x, Ev_pos (by simp) (Ev_bnd (add64_eq (P % 18446744073709551616) (Q % 18446744073709551616) 0 (by omega)) (Ev_bnd (add64_eq (P / 18446744073709551616) (Q / 18446744073709551616) ((P % 18446744073709551616 + Q % 18446744073709551616 + 0) / 18446744073709551616) (by omega)) (Ev_some fun _ => ?_))), ?_⟩
    · have hvn : v.natAbs = P + Q := by subst hv; cases x <;> simp <;> omega
      rw [hvn]
      have e1 : (P / 18446744073709551616 + Q / 18446744073709551616 + (P % 18446744073709551616 + Q % 18446744073709551616 + 0) / 18446744073709551616) % 18446744073709551616 = (P + Q) / 18446744073709551616 := by omega
      have e2 : (P % 18446744073709551616 + Q % 18446744073709551616 + 0) % 18446744073709551616 = (P + Q) % 18446744073709551616 := by omega
      rw [e1, e2]
    · intro h0
      subst hv
      cases x
      · simp at h0 ⊢; omega
      · simp at h0 ⊢; omega
  · have hyx : y = !x := by cases x <;> cases y <;> simp_all
    have hvn : v.natAbs = if P < Q then Q - P else P - Q := by
      subst hv hyx; cases x <;> simp <;> split <;> omega
    refine ⟨if P < Q then y else x, ?_, ?_⟩
    · refine Ev_neg (by simpa using hxy) ?_
      rw [hvn]
      by_cases h1 : ((P / 18446744073709551616 : Nat) : Int) < ((Q / 18446744073709551616 : Nat) : Int)
      · exact Ev_pos h1 (diff_ev P Q (by omega) (by omega) x y true (by rw [decide_eq_true]; omega))
      · refine Ev_neg h1 ?_
        by_cases h2 : ((P / 18446744073709551616 : Nat) : Int) = ((Q / 18446744073709551616 : Nat) : Int)
        · refine Ev_pos h2 (diff_ev P Q (by omega) (by omega) x y _ ?_)
          rw [decide_eq_decide]; omega
        · exact Ev_neg h2 (diff_ev P Q (by omega) (by omega) x y false (by rw [decide_eq_false]; omega))
    · intro h0
      subst hv hyx
      by_cases h : P < Q
      · rw [if_pos h]; cases x <;> simp at h0 ⊢ <;> omega
      · rw [if_neg h]; cases x <;> simp at h0 ⊢ <;> omega
theorem tab_all : ∀ i : Fin 256, 0 ≤ bt (⟨#[0, 1, 2, 2, 3, 3, 3, 3, 4, 4, 4, 4, 4, 4, 4, 4, 5, 5, 5, 5, 5, 5, 5, 5, 5, 5, 5, 5, 5, 5, 5, 5, 6, 6, 6, 6, 6, 6, 6, 6, 6, 6, 6, 6, 6, 6, 6, 6, 6, 6, 6, 6, 6, 6, 6, 6, 6, 6, 6, 6, 6, 6, 6, 6, 7, 7, 7, 7, 7, 7, 7, 7, 7, 7, 7, 7, 7, 7, 7, 7, 7, 7, 7, 7, 7, 7, 7, 7, 7, 7, 7, 7, 7, 7, 7, 7, 7, 7, 7, 7, 7, 7, 7, 7, 7, 7, 7, 7, 7, 7, 7, 7, 7, 7, 7, 7, 7, 7, 7, 7, 7, 7, 7, 7, 7, 7, 7, 7, 8, 8, 8, 8, 8, 8, 8, 8, 8, 8, 8, 8, 8, 8, 8, 8, 8, 8, 8, 8, 8, 8, 8, 8, 8, 8, 8, 8, 8, 8, 8, 8, 8, 8, 8, 8, 8, 8, 8, 8, 8, 8, 8, 8, 8, 8, 8, 8, 8, 8, 8, 8, 8, 8, 8, 8, 8, 8, 8, 8, 8, 8, 8, 8, 8, 8, 8, 8, 8, 8, 8, 8, 8, 8, 8, 8, 8, 8, 8, 8, 8, 8, 8, 8, 8, 8, 8, 8, 8, 8, 8, 8, 8, 8, 8, 8, 8, 8, 8, 8, 8, 8, 8, 8, 8, 8, 8, 8, 8, 8, 8, 8, 8, 8, 8, 8, 8, 8, 8, 8, 8, 8, 8, 8, 8, 8, 8, 8]⟩ : ByteArray) (i.val : Int) ∧ bt (⟨#[0, 1, 2, 2, 3, 3, 3, 3, 4, 4, 4, 4, 4, 4, 4, 4, 5, 5, 5, 5, 5, 5, 5, 5, 5, 5, 5, 5, 5, 5, 5, 5, 6, 6, 6, 6, 6, 6, 6, 6, 6, 6, 6, 6, 6, 6, 6, 6, 6, 6, 6, 6, 6, 6, 6, 6, 6, 6, 6, 6, 6, 6, 6, 6, 7, 7, 7, 7, 7, 7, 7, 7, 7, 7, 7, 7, 7, 7, 7, 7, 7, 7, 7, 7, 7, 7, 7, 7, 7, 7, 7, 7, 7, 7, 7, 7, 7, 7, 7, 7, 7, 7, 7, 7, 7, 7, 7, 7, 7, 7, 7, 7, 7, 7, 7, 7, 7, 7, 7, 7, 7, 7, 7, 7, 7, 7, 7, 7, 8, 8, 8, 8, 8, 8, 8, 8, 8, 8, 8, 8, 8, 8, 8, 8, 8, 8, 8, 8, 8, 8, 8, 8, 8, 8, 8, 8, 8, 8, 8, 8, 8, 8, 8, 8, 8, 8, 8, 8, 8, 8, 8, 8, 8, 8, 8, 8, 8, 8, 8, 8, 8, 8, 8, 8, 8, 8, 8, 8, 8, 8, 8, 8, 8, 8, 8, 8, 8, 8, 8, 8, 8, 8, 8, 8, 8, 8, 8, 8, 8, 8, 8, 8, 8, 8, 8, 8, 8, 8, 8, 8, 8, 8, 8, 8, 8, 8, 8, 8, 8, 8, 8, 8, 8, 8, 8, 8, 8, 8, 8, 8, 8, 8, 8, 8, 8, 8, 8, 8, 8, 8, 8, 8, 8, 8, 8, 8]⟩ : ByteArray) (i.val : Int) ≤ 8 ∧ (i.val : Nat) < 2 ^ (bt (⟨#[0, 1, 2, 2, 3, 3, 3, 3, 4, 4, 4, 4, 4, 4, 4, 4, 5, 5, 5, 5, 5, 5, 5, 5, 5, 5, 5, 5, 5, 5, 5, 5, 6, 6, 6, 6, 6, 6, 6, 6, 6, 6, 6, 6, 6, 6, 6, 6, 6, 6, 6, 6, 6, 6, 6, 6, 6, 6, 6, 6, 6, 6, 6, 6, 7, 7, 7, 7, 7, 7, 7, 7, 7, 7, 7, 7, 7, 7, 7, 7, 7, 7, 7, 7, 7, 7, 7, 7, 7, 7, 7, 7, 7, 7, 7, 7, 7, 7, 7, 7, 7, 7, 7, 7, 7, 7, 7, 7, 7, 7, 7, 7, 7, 7, 7, 7, 7, 7, 7, 7, 7, 7, 7, 7, 7, 7, 7, 7, 8, 8, 8, 8, 8, 8, 8, 8, 8, 8, 8, 8, 8, 8, 8, 8, 8, 8, 8, 8, 8, 8, 8, 8, 8, 8, 8, 8, 8, 8, 8, 8, 8, 8, 8, 8, 8, 8, 8, 8, 8, 8, 8, 8, 8, 8, 8, 8, 8, 8, 8, 8, 8, 8, 8, 8, 8, 8, 8, 8, 8, 8, 8, 8, 8, 8, 8, 8, 8, 8, 8, 8, 8, 8, 8, 8, 8, 8, 8, 8, 8, 8, 8, 8, 8, 8, 8, 8, 8, 8, 8, 8, 8, 8, 8, 8, 8, 8, 8, 8, 8, 8, 8, 8, 8, 8, 8, 8, 8, 8, 8, 8, 8, 8, 8, 8, 8, 8, 8, 8, 8, 8, 8, 8, 8, 8, 8, 8]⟩ : ByteArray) (i.val : Int)).toNat ∧ (i.val ≠ 0 → 2 ^ (bt (⟨#[0, 1, 2, 2, 3, 3, 3, 3, 4, 4, 4, 4, 4, 4, 4, 4, 5, 5, 5, 5, 5, 5, 5, 5, 5, 5, 5, 5, 5, 5, 5, 5, 6, 6, 6, 6, 6, 6, 6, 6, 6, 6, 6, 6, 6, 6, 6, 6, 6, 6, 6, 6, 6, 6, 6, 6, 6, 6, 6, 6, 6, 6, 6, 6, 7, 7, 7, 7, 7, 7, 7, 7, 7, 7, 7, 7, 7, 7, 7, 7, 7, 7, 7, 7, 7, 7, 7, 7, 7, 7, 7, 7, 7, 7, 7, 7, 7, 7, 7, 7, 7, 7, 7, 7, 7, 7, 7, 7, 7, 7, 7, 7, 7, 7, 7, 7, 7, 7, 7, 7, 7, 7, 7, 7, 7, 7, 7, 7, 8, 8, 8, 8, 8, 8, 8, 8, 8, 8, 8, 8, 8, 8, 8, 8, 8, 8, 8, 8, 8, 8, 8, 8, 8, 8, 8, 8, 8, 8, 8, 8, 8, 8, 8, 8, 8, 8, 8, 8, 8, 8, 8, 8, 8, 8, 8, 8, 8, 8, 8, 8, 8, 8, 8, 8, 8, 8, 8, 8, 8, 8, 8, 8, 8, 8, 8, 8, 8, 8, 8, 8, 8, 8, 8, 8, 8, 8, 8, 8, 8, 8, 8, 8, 8, 8, 8, 8, 8, 8, 8, 8, 8, 8, 8, 8, 8, 8, 8, 8, 8, 8, 8, 8, 8, 8, 8, 8, 8, 8, 8, 8, 8, 8, 8, 8, 8, 8, 8, 8, 8, 8, 8, 8, 8, 8, 8, 8]⟩ : ByteArray) (i.val : Int)).toNat ≤ 2 * i.val) := by decide +kernel
theorem tab (i : Nat) (h : i < 256) : ∃ v : Nat, bt (⟨#[0, 1, 2, 2, 3, 3, 3, 3, 4, 4, 4, 4, 4, 4, 4, 4, 5, 5, 5, 5, 5, 5, 5, 5, 5, 5, 5, 5, 5, 5, 5, 5, 6, 6, 6, 6, 6, 6, 6, 6, 6, 6, 6, 6, 6, 6, 6, 6, 6, 6, 6, 6, 6, 6, 6, 6, 6, 6, 6, 6, 6, 6, 6, 6, 7, 7, 7, 7, 7, 7, 7, 7, 7, 7, 7, 7, 7, 7, 7, 7, 7, 7, 7, 7, 7, 7, 7, 7, 7, 7, 7, 7, 7, 7, 7, 7, 7, 7, 7, 7, 7, 7, 7, 7, 7, 7, 7, 7, 7, 7, 7, 7, 7, 7, 7, 7, 7, 7, 7, 7, 7, 7, 7, 7, 7, 7, 7, 7, 8, 8, 8, 8, 8, 8, 8, 8, 8, 8, 8, 8, 8, 8, 8, 8, 8, 8, 8, 8, 8, 8, 8, 8, 8, 8, 8, 8, 8, 8, 8, 8, 8, 8, 8, 8, 8, 8, 8, 8, 8, 8, 8, 8, 8, 8, 8, 8, 8, 8, 8, 8, 8, 8, 8, 8, 8, 8, 8, 8, 8, 8, 8, 8, 8, 8, 8, 8, 8, 8, 8, 8, 8, 8, 8, 8, 8, 8, 8, 8, 8, 8, 8, 8, 8, 8, 8, 8, 8, 8, 8, 8, 8, 8, 8, 8, 8, 8, 8, 8, 8, 8, 8, 8, 8, 8, 8, 8, 8, 8, 8, 8, 8, 8, 8, 8, 8, 8, 8, 8, 8, 8, 8, 8, 8, 8, 8, 8]⟩ : ByteArray) (i : Int) = (v : Int) ∧ v ≤ 8 ∧ i < 2 ^ v ∧ (i ≠ 0 → 2 ^ v ≤ 2 * i) := by
  obtain ⟨h0, h1, h2, h3⟩ := tab_all ⟨i, h⟩
  have k0 : 0 ≤ bt (⟨#[0, 1, 2, 2, 3, 3, 3, 3, 4, 4, 4, 4, 4, 4, 4, 4, 5, 5, 5, 5, 5, 5, 5, 5, 5, 5, 5, 5, 5, 5, 5, 5, 6, 6, 6, 6, 6, 6, 6, 6, 6, 6, 6, 6, 6, 6, 6, 6, 6, 6, 6, 6, 6, 6, 6, 6, 6, 6, 6, 6, 6, 6, 6, 6, 7, 7, 7, 7, 7, 7, 7, 7, 7, 7, 7, 7, 7, 7, 7, 7, 7, 7, 7, 7, 7, 7, 7, 7, 7, 7, 7, 7, 7, 7, 7, 7, 7, 7, 7, 7, 7, 7, 7, 7, 7, 7, 7, 7, 7, 7, 7, 7, 7, 7, 7, 7, 7, 7, 7, 7, 7, 7, 7, 7, 7, 7, 7, 7, 8, 8, 8, 8, 8, 8, 8, 8, 8, 8, 8, 8, 8, 8, 8, 8, 8, 8, 8, 8, 8, 8, 8, 8, 8, 8, 8, 8, 8, 8, 8, 8, 8, 8, 8, 8, 8, 8, 8, 8, 8, 8, 8, 8, 8, 8, 8, 8, 8, 8, 8, 8, 8, 8, 8, 8, 8, 8, 8, 8, 8, 8, 8, 8, 8, 8, 8, 8, 8, 8, 8, 8, 8, 8, 8, 8, 8, 8, 8, 8, 8, 8, 8, 8, 8, 8, 8, 8, 8, 8, 8, 8, 8, 8, 8, 8, 8, 8, 8, 8, 8, 8, 8, 8, 8, 8, 8, 8, 8, 8, 8, 8, 8, 8, 8, 8, 8, 8, 8, 8, 8, 8, 8, 8, 8, 8, 8, 8]⟩ : ByteArray) (i : Int) := h0
  have k1 : bt (⟨#[0, 1, 2, 2, 3, 3, 3, 3, 4, 4, 4, 4, 4, 4, 4, 4, 5, 5, 5, 5, 5, 5, 5, 5, 5, 5, 5, 5, 5, 5, 5, 5, 6, 6, 6, 6, 6, 6, 6, 6, 6, 6, 6, 6, 6, 6, 6, 6, 6, 6, 6, 6, 6, 6, 6, 6, 6, 6, 6, 6, 6, 6, 6, 6, 7, 7, 7, 7, 7, 7, 7, 7, 7, 7, 7, 7, 7, 7, 7, 7, 7, 7, 7, 7, 7, 7, 7, 7, 7, 7, 7, 7, 7, 7, 7, 7, 7, 7, 7, 7, 7, 7, 7, 7, 7, 7, 7, 7, 7, 7, 7, 7, 7, 7, 7, 7, 7, 7, 7, 7, 7, 7, 7, 7, 7, 7, 7, 7, 8, 8, 8, 8, 8, 8, 8, 8, 8, 8, 8, 8, 8, 8, 8, 8, 8, 8, 8, 8, 8, 8, 8, 8, 8, 8, 8, 8, 8, 8, 8, 8, 8, 8, 8, 8, 8, 8, 8, 8, 8, 8, 8, 8, 8, 8, 8, 8, 8, 8, 8, 8, 8, 8, 8, 8, 8, 8, 8, 8, 8, 8, 8, 8, 8, 8, 8, 8, 8, 8, 8, 8, 8, 8, 8, 8, 8, 8, 8, 8, 8, 8, 8, 8, 8, 8, 8, 8, 8, 8, 8, 8, 8, 8, 8, 8, 8, 8, 8, 8, 8, 8, 8, 8, 8, 8, 8, 8, 8, 8, 8, 8, 8, 8, 8, 8, 8, 8, 8, 8, 8, 8, 8, 8, 8, 8, 8, 8]⟩ : ByteArray) (i : Int) ≤ 8 := h1
  exact ⟨(bt (⟨#[0, 1, 2, 2, 3, 3, 3, 3, 4, 4, 4, 4, 4, 4, 4, 4, 5, 5, 5, 5, 5, 5, 5, 5, 5, 5, 5, 5, 5, 5, 5, 5, 6, 6, 6, 6, 6, 6, 6, 6, 6, 6, 6, 6, 6, 6, 6, 6, 6, 6, 6, 6, 6, 6, 6, 6, 6, 6, 6, 6, 6, 6, 6, 6, 7, 7, 7, 7, 7, 7, 7, 7, 7, 7, 7, 7, 7, 7, 7, 7, 7, 7, 7, 7, 7, 7, 7, 7, 7, 7, 7, 7, 7, 7, 7, 7, 7, 7, 7, 7, 7, 7, 7, 7, 7, 7, 7, 7, 7, 7, 7, 7, 7, 7, 7, 7, 7, 7, 7, 7, 7, 7, 7, 7, 7, 7, 7, 7, 8, 8, 8, 8, 8, 8, 8, 8, 8, 8, 8, 8, 8, 8, 8, 8, 8, 8, 8, 8, 8, 8, 8, 8, 8, 8, 8, 8, 8, 8, 8, 8, 8, 8, 8, 8, 8, 8, 8, 8, 8, 8, 8, 8, 8, 8, 8, 8, 8, 8, 8, 8, 8, 8, 8, 8, 8, 8, 8, 8, 8, 8, 8, 8, 8, 8, 8, 8, 8, 8, 8, 8, 8, 8, 8, 8, 8, 8, 8, 8, 8, 8, 8, 8, 8, 8, 8, 8, 8, 8, 8, 8, 8, 8, 8, 8, 8, 8, 8, 8, 8, 8, 8, 8, 8, 8, 8, 8, 8, 8, 8, 8, 8, 8, 8, 8, 8, 8, 8, 8, 8, 8, 8, 8, 8, 8, 8, 8]⟩ : ByteArray) (i : Int)).toNat, (Int.toNat_of_nonneg k0).symm, Int.toNat_le.2 k1, h2, h3⟩
theorem w64n (a : Nat) (h : a < 1000000) : wrap64 (a : Int) = (a : Int) := by unfold wrap64; omega
theorem w64a (a b : Nat) (h : a + b < 1000000) : wrap64 ((a : Int) + (b : Int)) = ((a + b : Nat) : Int) := by unfold wrap64; omega
theorem len1_ev (x c : Nat) (hx : x < 65536) (hc : c ≤ 48) : ∃ n : Nat, Ev (fun k => bits_Len64.j1 k (x : Int) (c : Int)) ((c + n : Nat) : Int) ∧ n ≤ 16 ∧ x < 2 ^ n ∧ (x ≠ 0 → 2 ^ n ≤ 2 * x) := by
  have e3 : (x : Int) / 256 = ((x / 256 : Nat) : Int) := by omega
  have s8 : wrap64 ((c : Int) + 8) = ((c + 8 : Nat) : Int) := by unfold wrap64; omega
  by_cases h2 : x ≥ 256
  · have f3 : ((x / 256 : Nat) : Int) % 256 = ((x / 256 : Nat) : Int) := by omega
    obtain ⟨v, hv, v8, vl, vg⟩ := tab (x / 256) (by omega)
    refine ⟨8 + v, Ev.step (fun k => by rw [bits_Len64.j1, e3, f3, s8, hv]) (Ev_pos (by omega) (Ev_pos (by omega) (Ev_pos (by omega) (Ev_some fun _ => ?_)))), by omega, ?_, ?_⟩
    · rw [w64n v (by omega), w64a _ _ (by omega), Nat.add_assoc]
    · rw [Nat.pow_add]; omega
    · intro _; have := vg (by omega); rw [Nat.pow_add]; omega
  · have f4 : (x : Int) % 256 = (x : Int) := by omega
    obtain ⟨v, hv, v8, vl, vg⟩ := tab x (by omega)
    refine ⟨v, Ev.step (fun k => by rw [bits_Len64.j1, f4, hv]) (Ev_neg (by omega) (Ev_pos (by omega) (Ev_pos (by omega) (Ev_some fun _ => ?_)))), by omega, vl, vg⟩
    rw [w64n v (by omega), w64a _ _ (by omega)]
theorem len_ev (x c : Nat) (hx : x < 4294967296) (hc : c ≤ 32) : ∃ n : Nat, Ev (fun k => bits_Len64.j0 k (x : Int) (c : Int)) ((c + n : Nat) : Int) ∧ n ≤ 32 ∧ x < 2 ^ n ∧ (x ≠ 0 → 2 ^ n ≤ 2 * x) := by
  have e1 : (x : Int) / 65536 = ((x / 65536 : Nat) : Int) := by omega
  have s16 : wrap64 ((c : Int) + 16) = ((c + 16 : Nat) : Int) := by unfold wrap64; omega
  by_cases h1 : x ≥ 65536
  · obtain ⟨n, hn, n0, n1, n2⟩ := len1_ev (x / 65536) (c + 16) (by omega) (by omega)
    refine ⟨16 + n, Ev.step (fun k => by rw [bits_Len64.j0, e1, s16]) (Ev_pos (by omega) ?_), by omega, ?_, ?_⟩
    · rw [← Nat.add_assoc]; exact hn
    · rw [Nat.pow_add]; omega
    · intro _; have := n2 (by omega); rw [Nat.pow_add]; omega
  · obtain ⟨n, hn, n0, n1, n2⟩ := len1_ev x c (by omega) (by omega)
    exact ⟨n, Ev.step (fun k => by rw [bits_Len64.j0]) (Ev_neg (by omega) hn), by omega, n1, n2⟩
theorem zeros_ev (x : Nat) (h0 : 0 < x) (hx : x < 18446744073709551616) : ∃ s : Nat, Ev (fun k => bits_LeadingZeros64.f k (x : Int)) (s : Int) ∧ s ≤ 63 ∧ x * 2 ^ s < 18446744073709551616 ∧ 9223372036854775808 ≤ x * 2 ^ s := by
  have main : ∃ n : Nat, Ev (fun k => bits_Len64.f k (x : Int)) (n : Int) ∧ n ≤ 64 ∧ x < 2 ^ n ∧ 2 ^ n ≤ 2 * x := by
    unfold bits_Len64.f
    by_cases h : x ≥ 4294967296
    · have e : (x : Int) / 4294967296 = ((x / 4294967296 : Nat) : Int) := by omega
      obtain ⟨n, hn, n0, n1, n2⟩ := len_ev (x / 4294967296) 32 (by omega) (by omega)
      refine ⟨32 + n, Ev_pos (by omega) (by rw [e]; exact hn), by omega, ?_, ?_⟩
      · rw [Nat.pow_add]; omega
      · have := n2 (by omega); rw [Nat.pow_add]; omega
    · obtain ⟨n, hn, n0, n1, n2⟩ := len_ev x 0 (by omega) (by omega)
      refine ⟨n, Ev_neg (by omega) ?_, by omega, n1, n2 (by omega)⟩
      simpa using hn
  obtain ⟨n, hn, n0, n1, n2⟩ := main
  have hn0 : n ≠ 0 := by intro e; subst e; simp at n1; omega
  refine ⟨64 - n, ?_, by omega, ?_, ?_⟩
  · unfold bits_LeadingZeros64.f
    refine Ev.bind hn (Ev_some fun _ => ?_)
    unfold wrap64
    congr 1; omega
  · have : 2 ^ n * 2 ^ (64 - n) = 18446744073709551616 := by rw [← Nat.pow_add, show n + (64 - n) = 64 by omega]
    have h := Nat.mul_lt_mul_of_pos_right n1 (Nat.pow_pos (n := 64 - n) (show 0 < 2 by omega))
    omega
  · have : 2 ^ n * 2 ^ (64 - n) = 18446744073709551616 := by rw [← Nat.pow_add, show n + (64 - n) = 64 by omega]
    have h := Nat.mul_le_mul_right (2 ^ (64 - n)) n2
    rw [Nat.mul_assoc] at h
    omega
structure Norm (y y1 y0 : Nat) : Prop where
  e : y = y1 * 4294967296 + y0
  lo : 9223372036854775808 ≤ y
  hi : y < 18446744073709551616
  d0 : y0 < 4294967296
theorem Norm.half {y y1 y0 : Nat} (n : Norm y y1 y0) : 2147483648 ≤ y1 ∧ y1 < 4294967296 := by
  have := n.e; have := n.lo; have := n.hi; have := n.d0; omega
theorem test_eq {q y0 rh c : Nat} (hq : q < 4294967296) (hy0 : y0 < 4294967296) (hr : rh < 4294967296) (hc : c < 4294967296) :
    decide ((IntKind.u64.wrap ((q : Int) * (y0 : Int))) > (IntKind.u64.wrap ((IntKind.u64.wrap (4294967296 * (rh : Int))) + (c : Int)))) = decide (4294967296 * rh + c < q * y0) := by
  have m := mul_lt hq hy0
  have e1 : IntKind.u64.wrap ((q : Int) * (y0 : Int)) = ((q * y0 : Nat) : Int) := by rw [wu64, ← Int.natCast_mul]; omega
  have e2 : IntKind.u64.wrap (4294967296 * (rh : Int)) = ((4294967296 * rh : Nat) : Int) := by rw [wu64]; omega
  have e3 : IntKind.u64.wrap (((4294967296 * rh : Nat) : Int) + (c : Int)) = ((4294967296 * rh + c : Nat) : Int) := by rw [wu64]; omega
  rw [e1, e2, e3, decide_eq_decide]
  omega
theorem l0_ev {y s y1 y0 u c1 c0 : Nat} (n : Norm y y1 y0) (hu : u < y) (hc : c1 < 4294967296) {r : Int × Int}
    (H : Ev (fun k => bits_Div64.j2 k (y : Int) (s : Int) (y1 : Int) (y0 : Int) (u : Int) (c1 : Int) (c0 : Int) (((u * 4294967296 + c1) / y : Nat) : Int)) r) (d : Nat) :
    ∀ (qh rh : Nat), BallQ.Digit u c1 y y1 y0 4294967296 qh rh → qh ≤ 4294967297 → rh < 4294967296 → 4294967296 ≤ rh + d →
    Ev (fun k => bits_Div64.l0 k (y : Int) (s : Int) (y1 : Int) (y0 : Int) (u : Int) (c1 : Int) (c0 : Int) (qh : Int) (rh : Int)) r := by
  induction d with
  | zero => intro qh rh _ _ h1 h2; omega
  | succ d ih =>
    intro qh rh D hq hr hd
    have hh := n.half
    have hy0 : 0 < y := by have := n.lo; omega
    have hd0 := n.d0
    have up : (4294967296 ≤ qh ∨ 4294967296 * rh + c1 < qh * y0) → Ev (fun k => bits_Div64.j1 k (y : Int) (s : Int) (y1 : Int) (y0 : Int) (u : Int) (c1 : Int) (c0 : Int) (qh : Int) (rh : Int) true) r := by
      intro h
      have hm := BallQ.digit_more D n.e hy0 hu hc h
      have D' := BallQ.digit_step D hm
      have hq0 : 0 < qh := Nat.lt_of_le_of_lt (Nat.zero_le _) hm
      clear hm h
      have e1 : IntKind.u64.wrap ((rh : Int) + (y1 : Int)) = ((rh + y1 : Nat) : Int) := by rw [wu64]; omega
      have e2 : IntKind.u64.wrap ((qh : Int) - 1) = ((qh - 1 : Nat) : Int) := by rw [wu64]; omega
      refine Ev.step (fun k => by rw [bits_Div64.j1, e1, e2]) (Ev_pos rfl ?_)
      by_cases hf : 4294967296 ≤ rh + y1
      · refine Ev_pos (by omega) ?_
        rw [BallQ.digit_far D' n.e hy0 hd0 (by omega) hf]
        exact H
      · exact Ev_neg (by omega) (ih (qh - 1) (rh + y1) D' (by omega) (by omega) (by omega))
    refine Ev.step (fun k => by rw [bits_Div64.l0]) ?_
    by_cases hb : 4294967296 ≤ qh
    · exact Ev_pos (by omega) (up (.inl hb))
    · refine Ev_neg (by omega) ?_
      rw [test_eq (by omega) hd0 hr hc]
      by_cases ht : 4294967296 * rh + c1 < qh * y0
      · rw [decide_eq_true ht]; exact up (.inr ht)
      · rw [decide_eq_false ht]
        refine Ev.step (fun k => by rw [bits_Div64.j1]) (Ev_neg (by simp) ?_)
        rw [BallQ.digit_end D n.e hy0 (by omega)]
        exact H
theorem rest_eq {u c y Q : Nat} (hQ : Q = (u * 4294967296 + c) / y) (hy : 0 < y) (hy1 : y < 18446744073709551616) :
    IntKind.u64.wrap ((IntKind.u64.wrap ((IntKind.u64.wrap ((u : Int) * 4294967296)) + (c : Int))) - (IntKind.u64.wrap ((Q : Int) * (y : Int)))) = (((u * 4294967296 + c) % y : Nat) : Int) := by
  have h := Nat.div_add_mod (u * 4294967296 + c) y
  have hlt := Nat.mod_lt (u * 4294967296 + c) hy
  rw [← hQ, Nat.mul_comm] at h
  rw [wu64, wu64, wu64, wu64, ← Int.natCast_mul Q y]
  generalize Q * y = p at *
  generalize (u * 4294967296 + c) % y = R at *
  clear hQ
  omega
theorem sub_mul_eq {R y1 : Nat} (hR : R < 18446744073709551616) :
    IntKind.u64.wrap (Int.tdiv (R : Int) (y1 : Int)) = ((R / y1 : Nat) : Int) ∧ IntKind.u64.wrap ((R : Int) - (IntKind.u64.wrap (((R / y1 : Nat) : Int) * (y1 : Int)))) = ((R % y1 : Nat) : Int) := by
  have h := Nat.div_add_mod R y1
  have hd : R / y1 ≤ R := Nat.div_le_self R y1
  constructor
  · rw [Int.tdiv_eq_ediv_of_nonneg (by omega), ← Int.natCast_ediv, wu64]
    generalize R / y1 = v at *
    omega
  · rw [wu64, wu64, ← Int.natCast_mul, Nat.mul_comm (R / y1) y1]
    generalize y1 * (R / y1) = p at *
    generalize R % y1 = m at *
    omega
theorem shr_eq (x s : Nat) (hs : s ≤ 64) : shr .u64 (x : Int) (s : Int) = ((x / 2 ^ s : Nat) : Int) := by
  unfold shr
  have : min (s : Int).toNat (IntKind.u64.bits) = s := by simp [IntKind.bits]; omega
  rw [this]; simp
theorem l1_ev {y s y1 y0 R c0 Q1 : Nat} (n : Norm y y1 y0) (hu : R < y) (hs : s ≤ 63) (hc : c0 < 4294967296) (hQ : Q1 < 4294967296) (d : Nat) :
    ∀ (qh rh : Nat), BallQ.Digit R c0 y y1 y0 4294967296 qh rh → qh ≤ 4294967297 → rh < 4294967296 → 4294967296 ≤ rh + d →
    Ev (fun k => bits_Div64.l1 k (y : Int) (s : Int) (y1 : Int) (y0 : Int) (c0 : Int) (Q1 : Int) (rh : Int) (R : Int) (qh : Int)) (((Q1 * 4294967296 + (R * 4294967296 + c0) / y : Nat) : Int), (((R * 4294967296 + c0) % y / 2 ^ s : Nat) : Int)) := by
  have hy0 : 0 < y := by have := n.lo; omega
  have hlt : (R * 4294967296 + c0) / y < 4294967296 := by
    rw [Nat.div_lt_iff_lt_mul hy0]
    omega
  have fin : ∀ qh : Nat, qh = (R * 4294967296 + c0) / y → (some (IntKind.u64.wrap ((IntKind.u64.wrap ((Q1 : Int) * 4294967296)) + (qh : Int)), shr .u64 (IntKind.u64.wrap ((IntKind.u64.wrap ((IntKind.u64.wrap ((R : Int) * 4294967296)) + (c0 : Int))) - (IntKind.u64.wrap ((qh : Int) * (y : Int))))) (s : Int)) : Option (Int × Int)) =
      some (((Q1 * 4294967296 + (R * 4294967296 + c0) / y : Nat) : Int), (((R * 4294967296 + c0) % y / 2 ^ s : Nat) : Int)) := by
    intro qh hq
    rw [rest_eq hq hy0 n.hi, shr_eq _ _ (by omega), hq]
    generalize (R * 4294967296 + c0) / y = v at *
    congr 2
    rw [wu64, wu64]; omega
  induction d with
  | zero => intro qh rh _ _ h1 h2; omega
  | succ d ih =>
    intro qh rh D hq hr hd
    have hh := n.half
    have hd0 := n.d0
    have up : (4294967296 ≤ qh ∨ 4294967296 * rh + c0 < qh * y0) → Ev (fun k => bits_Div64.j4 k (y : Int) (s : Int) (y1 : Int) (y0 : Int) (c0 : Int) (Q1 : Int) (rh : Int) (R : Int) (qh : Int) true) (((Q1 * 4294967296 + (R * 4294967296 + c0) / y : Nat) : Int), (((R * 4294967296 + c0) % y / 2 ^ s : Nat) : Int)) := by
      intro h
      have hm := BallQ.digit_more D n.e hy0 hu hc h
      have D' := BallQ.digit_step D hm
      have hq0 : 0 < qh := Nat.lt_of_le_of_lt (Nat.zero_le _) hm
      clear hm h hlt
      have e1 : IntKind.u64.wrap ((rh : Int) + (y1 : Int)) = ((rh + y1 : Nat) : Int) := by rw [wu64]; omega
      have e2 : IntKind.u64.wrap ((qh : Int) - 1) = ((qh - 1 : Nat) : Int) := by rw [wu64]; omega
      refine Ev.step (fun k => by rw [bits_Div64.j4, e1, e2]) (Ev_pos rfl ?_)
      by_cases hf : 4294967296 ≤ rh + y1
      · refine Ev_pos (by omega) (Ev_pos (by omega) (Ev_some fun _ => ?_))
        exact fin _ (BallQ.digit_far D' n.e hy0 hd0 (by omega) hf)
      · exact Ev_neg (by omega) (ih (qh - 1) (rh + y1) D' (by omega) (by omega) (by omega))
    refine Ev.step (fun k => by rw [bits_Div64.l1]) ?_
    by_cases hb : 4294967296 ≤ qh
    · exact Ev_pos (by omega) (up (.inl hb))
    · refine Ev_neg (by omega) ?_
      rw [test_eq (by omega) hd0 hr hc]
      by_cases ht : 4294967296 * rh + c0 < qh * y0
      · rw [decide_eq_true ht]; exact up (.inr ht)
      · rw [decide_eq_false ht]
        refine Ev.step (fun k => by rw [bits_Div64.j4]) (Ev_neg (by simp) (Ev_pos (by omega) (Ev_some fun _ => ?_)))
        exact fin _ (BallQ.digit_end D n.e hy0 (by omega))
theorem shl_eq (x s : Nat) (hs : s ≤ 64) : shl .u64 (x : Int) (s : Int) = ((x * 2 ^ s % 18446744073709551616 : Nat) : Int) := by
  unfold shl
  have : min (s : Int).toNat (IntKind.u64.bits) = s := by simp [IntKind.bits]; omega
  rw [this, wu64]; simp
theorem or_eq {x y s : Nat} (hx : x * 2 ^ s < 18446744073709551616) (hy : y < 2 ^ s) (hs : s ≤ 64) : Go.bits .or .u64 ((x * 2 ^ s : Nat) : Int) (y : Int) = ((x * 2 ^ s + y : Nat) : Int) := by
  have hp : 2 ^ s ≤ 18446744073709551616 := Nat.pow_le_pow_right (n := 2) (by decide) hs
  have e : ((2 : Int) ^ s) = ((2 ^ s : Nat) : Int) := by simp
  have h1 : ((x * 2 ^ s : Nat) : Int) % 2 ^ s = 0 := by rw [e, ← Int.natCast_emod, Nat.mul_mod_left]; rfl
  have h2 : (y : Int) < 2 ^ s := by rw [e]; exact Int.ofNat_lt.2 hy
  have h3 : ((x * 2 ^ s : Nat) : Int) < 2 ^ 64 := Int.ofNat_lt.2 hx
  have h4 : (y : Int) < 2 ^ 64 := Int.ofNat_lt.2 (Nat.lt_of_lt_of_le hy hp)
  have := bits_join .u64 64 (by decide) wraps_u64 s ((x * 2 ^ s : Nat) : Int) (y : Int) (Int.natCast_nonneg _) h1 h3 (Int.natCast_nonneg _) h2 h4
  rw [this]; simp
theorem shift_parts {hi lo y p r : Nat} (hpp : r * p = 18446744073709551616) (h : hi < y) (hl : lo < 18446744073709551616) (sN : y * p < 18446744073709551616) :
    hi * p < 18446744073709551616 ∧ lo / r < p ∧ hi * p + lo / r < y * p ∧ (hi * 18446744073709551616 + lo) * p = (hi * p + lo / r) * 18446744073709551616 + lo * p % 18446744073709551616 := by
  have p0 : 0 < p := by rcases Nat.eq_zero_or_pos p with e | e; · subst e; simp at hpp
                        · exact e
  have r0 : 0 < r := by rcases Nat.eq_zero_or_pos r with e | e; · subst e; simp at hpp
                        · exact e
  have h1 : (hi + 1) * p ≤ y * p := Nat.mul_le_mul_right _ h
  rw [Nat.add_mul, Nat.one_mul] at h1
  have h2 : lo / r < p := by rw [Nat.div_lt_iff_lt_mul r0, Nat.mul_comm, hpp]; exact hl
  have a1 := Nat.div_add_mod (lo * p) 18446744073709551616
  have a2 : lo * p / 18446744073709551616 = lo / r := by rw [← hpp, Nat.mul_div_mul_right _ _ p0]
  rw [a2] at a1
  have a3 : (hi * 18446744073709551616 + lo) * p = hi * p * 18446744073709551616 + lo * p := by grind
  rw [a3]
  generalize hi * p = A at *
  generalize y * p = Y at *
  generalize lo * p = L at *
  generalize lo / r = D at *
  clear hpp a2 a3
  omega
theorem div64_norm {u L Y s : Nat} (s63 : s ≤ 63) (sN : Y < 18446744073709551616) (sL : 9223372036854775808 ≤ Y) (hu : u < Y) (hLm : L < 18446744073709551616) :
    Ev (fun k => bits_Div64.l0 k (Y : Int) (s : Int) ((Y / 4294967296 : Nat) : Int) ((Y % 4294967296 : Nat) : Int) (u : Int) ((L / 4294967296 : Nat) : Int) ((L % 4294967296 : Nat) : Int) ((u / (Y / 4294967296) : Nat) : Int) ((u % (Y / 4294967296) : Nat) : Int))
      ((((u * 18446744073709551616 + L) / Y : Nat) : Int), (((u * 18446744073709551616 + L) % Y / 2 ^ s : Nat) : Int)) := by
  have n : Norm Y (Y / 4294967296) (Y % 4294967296) := ⟨by omega, sL, sN, by omega⟩
  have hh := n.half
  have hY0 : 0 < Y := by omega
  have td := BallQ.two_digits (U := u * 18446744073709551616 + L) (y := Y) (B := 4294967296) (u := u) (c1 := L / 4294967296) (c0 := L % 4294967296) hY0 (by omega)
  rw [td.1, td.2]
  clear td
  have hQ : (u * 4294967296 + L / 4294967296) / Y < 4294967296 := by
    rw [Nat.div_lt_iff_lt_mul hY0]; omega
  have hR : (u * 4294967296 + L / 4294967296) % Y < Y := Nat.mod_lt _ hY0
  have hc1 : L / 4294967296 < 4294967296 := by omega
  have hc0 : L % 4294967296 < 4294967296 := by omega
  have hy1 : 0 < Y / 4294967296 := by omega
  have hy2 : Y / 4294967296 < 4294967296 := hh.2
  have b1 := BallQ.digit_bound n.e hu n.d0 (by omega) hy1
  have r1 : u % (Y / 4294967296) < Y / 4294967296 := Nat.mod_lt _ hy1
  refine l0_ev n hu hc1 ?_ 4294967296 _ _ (BallQ.digit_start n.e hy1 hc1) b1 (Nat.lt_trans r1 hy2) (Nat.le_add_left _ _)
  have rq := rest_eq (u := u) (c := L / 4294967296) (y := Y) rfl hY0 n.hi
  obtain ⟨v1, v2⟩ := sub_mul_eq (R := (u * 4294967296 + L / 4294967296) % Y) (y1 := Y / 4294967296) (Nat.lt_trans hR sN)
  refine Ev.step (fun k => by rw [bits_Div64.j2, rq, v1, v2]) (Ev_neg (by omega) ?_)
  have b2 := BallQ.digit_bound n.e hR n.d0 (by omega) hy1
  have r2 : (u * 4294967296 + L / 4294967296) % Y % (Y / 4294967296) < Y / 4294967296 := Nat.mod_lt _ hy1
  exact l1_ev n hR s63 hc0 hQ 4294967296 _ _ (BallQ.digit_start n.e hy1 hc0) b2 (Nat.lt_trans r2 hy2) (Nat.le_add_left _ _)
theorem div64_ev (hi lo y : Nat) (h : hi < y) (hy : y < 18446744073709551616) (hl : lo < 18446744073709551616) :
    Ev (fun k => bits_Div64.f k (hi : Int) (lo : Int) (y : Int)) ((((hi * 18446744073709551616 + lo) / y : Nat) : Int), (((hi * 18446744073709551616 + lo) % y : Nat) : Int)) := by
  unfold bits_Div64.f
  refine Ev_neg (by omega) (Ev_neg (by omega) ?_)
  by_cases h0 : hi = 0
  · subst h0
    refine Ev_pos rfl (Ev_some fun _ => ?_)
    rw [Nat.zero_mul, Nat.zero_add, (sub_mul_eq hl).1, Int.tmod_eq_emod_of_nonneg (by omega)]
    rfl
  · refine Ev_neg (by omega) ?_
    obtain ⟨s, hz, s63, sN, sL⟩ := zeros_ev y (by omega) hy
    refine Ev.bind hz ?_
    clear hz h0
    have es : IntKind.u64.wrap (s : Int) = (s : Int) := by rw [wu64]; clear sN sL; omega
    have es2 : IntKind.u64.wrap (64 - (s : Int)) = ((64 - s : Nat) : Int) := by rw [wu64]; clear sN sL; omega
    have s64 : s ≤ 64 := Nat.le_trans s63 (by decide)
    have p1 : 0 < 2 ^ s := Nat.pow_pos (by decide)
    have pp : 2 ^ (64 - s) * 2 ^ s = 18446744073709551616 := by rw [← Nat.pow_add, Nat.sub_add_cancel s64]
    obtain ⟨k1, k2, k3, k4⟩ := shift_parts pp h hl sN
    have eY : shl .u64 (y : Int) (s : Int) = ((y * 2 ^ s : Nat) : Int) := by rw [shl_eq _ _ s64, Nat.mod_eq_of_lt sN]
    have eH : shl .u64 (hi : Int) (s : Int) = ((hi * 2 ^ s : Nat) : Int) := by rw [shl_eq _ _ s64, Nat.mod_eq_of_lt k1]
    have eL : shl .u64 (lo : Int) (s : Int) = ((lo * 2 ^ s % 18446744073709551616 : Nat) : Int) := shl_eq _ _ s64
    have eR : shr .u64 (lo : Int) ((64 - s : Nat) : Int) = ((lo / 2 ^ (64 - s) : Nat) : Int) := shr_eq _ _ (Nat.sub_le _ _)
    have eO := or_eq k1 k2 s64
    have hLm : lo * 2 ^ s % 18446744073709551616 < 18446744073709551616 := Nat.mod_lt _ (by decide)
    rw [es, es2, eY, eH, eL, eR, eO, and32 _ sN, and32 _ hLm]
    have eq1 : (hi * 18446744073709551616 + lo) / y = (hi * 18446744073709551616 + lo) * 2 ^ s / (y * 2 ^ s) := by rw [Nat.mul_div_mul_right _ _ p1]
    have eq2 : (hi * 18446744073709551616 + lo) % y = (hi * 18446744073709551616 + lo) * 2 ^ s % (y * 2 ^ s) / 2 ^ s := by
      rw [Nat.mul_mod_mul_right, Nat.mul_div_cancel _ p1]
    rw [eq1, eq2, k4]
    clear eq1 eq2 k4 k1 k2 pp p1 eO eR eL eH eY es es2 h hl
    generalize hi * 2 ^ s + lo / 2 ^ (64 - s) = u at *
    generalize lo * 2 ^ s % 18446744073709551616 = L at *
    generalize y * 2 ^ s = Y at *
    have ey1 : (Y : Int) / 4294967296 = ((Y / 4294967296 : Nat) : Int) := by omega
    have eL1 : (L : Int) / 4294967296 = ((L / 4294967296 : Nat) : Int) := by omega
    refine Ev_pos (by omega) (Ev_pos (by omega) ?_)
    rw [ey1, eL1]
    refine Ev_neg (by omega) ?_
    obtain ⟨q1, q2⟩ := sub_mul_eq (R := u) (y1 := Y / 4294967296) (by omega)
    rw [q1, q2]
    exact div64_norm s63 sN sL k3 hLm
theorem rem64_ev (hi lo y : Nat) (h0 : 0 < y) (hy : y < 18446744073709551616) (hl : lo < 18446744073709551616) :
    Ev (fun k => bits_Rem64.f k (hi : Int) (lo : Int) (y : Int)) (((hi * 18446744073709551616 + lo) % y : Nat) : Int) := by
  unfold bits_Rem64.f
  refine Ev_neg (by omega) ?_
  have e : Int.tmod (hi : Int) (y : Int) = ((hi % y : Nat) : Int) := by rw [Int.tmod_eq_emod_of_nonneg (by omega)]; rfl
  rw [e]
  refine Ev.bind (div64_ev (hi % y) lo y (Nat.mod_lt _ h0) hy hl) (Ev_some fun _ => ?_)
  have : (hi % y * 18446744073709551616 + lo) % y = (hi * 18446744073709551616 + lo) % y := by
    rw [Nat.add_mod, Nat.mul_mod, Nat.mod_mod, ← Nat.mul_mod, ← Nat.add_mod]
  rw [this]
theorem put_ev (n d : Nat) (m : Bool) (_hn : n < 18446744073709551616) (_hd : d < 18446744073709551616) : Ev (fun k => rat_put.f k (n : Int) (d : Int) m) (put n d m) := by
  have big : Ev (fun k => rat_put.j0 k (n : Int) (d : Int) m true) (0, 0, 3) := Ev.step (fun k => by rw [rat_put.j0]) (Ev_pos rfl (Ev.now _))
  unfold rat_put.f BallQ.put
  by_cases h1 : (n : Int) > 9223372036854775807
  · refine Ev_pos h1 ?_
    rw [if_neg (by omega)]; exact big
  · refine Ev_neg h1 ?_
    by_cases h2 : (d : Int) > 9223372036854775807
    · rw [decide_eq_true h2, if_neg (by omega)]; exact big
    · rw [decide_eq_false h2, if_pos (by omega)]
      refine Ev.step (fun k => by rw [rat_put.j0]) (Ev_neg (by simp) ?_)
      have e1 : wrap64 (n : Int) = n := by unfold wrap64; omega
      have e2 : wrap64 (d : Int) = d := by unfold wrap64; omega
      have e3 : wrap64 (-(n : Int)) = -(n : Int) := by unfold wrap64; omega
      cases m
      · refine Ev_neg (by simp) (Ev_some fun _ => ?_)
        rw [e1, e2]; rfl
      · refine Ev_pos rfl (Ev_some fun _ => ?_)
        rw [e1, e2, e3]; rfl
theorem product_eq (a b : Nat) (ha : a < 18446744073709551616) (hb : b < 18446744073709551616) : rat_product.f (a : Int) (b : Int) = some (((a * b % 18446744073709551616 : Nat) : Int), decide (a * b < 18446744073709551616)) := by
  unfold rat_product.f
  rw [mul64_eq a b ha hb]
  simp only [Option.bind_some]
  congr 2
  by_cases h : a * b < 18446744073709551616
  · rw [decide_eq_true h, Nat.div_eq_of_lt h]; rfl
  · rw [decide_eq_false h, beq_eq_false_iff_ne]; omega
theorem right_nat {n d : Int} (h : Right n d) (hd : In64 d) : ∃ D : Nat, d = (D : Int) ∧ 0 < D ∧ D < 9223372036854775808 ∧ n.natAbs.gcd D = 1 := by
  obtain ⟨h0, _, h2⟩ := h
  have := hd.2
  refine ⟨d.natAbs, by omega, by omega, by omega, h2⟩
theorem out_zero : out 0 = (0, 1, 0) := by decide +kernel
theorem or_zero {a b : Nat} (ha : a < 18446744073709551616) (hb : b < 18446744073709551616) : Go.bits .or .u64 (a : Int) (b : Int) = 0 ↔ a = 0 ∧ b = 0 := by
  have := (bits_nat .u64 64 (by decide) wraps_u64 a b (by omega) (by omega)).2
  rw [this]
  have e : ((a ||| b : Nat) : Int) = 0 ↔ (a ||| b) = 0 := by omega
  rw [e, Nat.or_eq_zero_iff]
def addS (aN aD bN bD : Int) : Int × Int × Int := if Right aN aD ∧ Right bN bD then out (q aN aD + q bN bD) else (0, 0, 2)
theorem add_fin {v t : Int} {p D : Nat} (hp0 : 0 < p) (ht : v = (p : Int) * t) (m : Bool) :
    (¬ v.natAbs / 18446744073709551616 < p → put t.natAbs D m = (0, 0, 3)) ∧ (v.natAbs / 18446744073709551616 < p → t.natAbs < 18446744073709551616) ∧ v.natAbs / p = t.natAbs := by
  have e : v.natAbs = p * t.natAbs := by rw [ht, Int.natAbs_mul, Int.natAbs_natCast]
  have e2 : v.natAbs / p = t.natAbs := by rw [e]; exact Nat.mul_div_cancel_left _ hp0
  refine ⟨?_, ?_, e2⟩
  · intro h
    have h1 : p * 18446744073709551616 ≤ v.natAbs := by
      have := Nat.div_mul_le_self v.natAbs 18446744073709551616
      have h3 := Nat.mul_le_mul_right 18446744073709551616 (Nat.not_lt.1 h)
      exact Nat.le_trans h3 this
    have h2 : 18446744073709551616 ≤ t.natAbs := by
      rw [← e2, Nat.le_div_iff_mul_le hp0, Nat.mul_comm]; exact h1
    unfold BallQ.put
    rw [if_neg]
    intro h3
    have := h3.1
    clear h3 h1 e e2 ht h
    omega
  · intro h
    rw [← e2, Nat.div_lt_iff_lt_mul hp0]
    have h1 := (Nat.div_lt_iff_lt_mul (show 0 < 18446744073709551616 by decide)).1 h
    rw [Nat.mul_comm]; exact h1
theorem in64_nat {n : Nat} (h : n < 9223372036854775808) : In64 (n : Int) := ⟨by omega, by omega⟩
theorem lt64 {n : Nat} (h : n < 9223372036854775808) : n < 18446744073709551616 := by omega
theorem pos_ne {n : Nat} (h : 0 < n) : ¬ ((n : Nat) : Int) = 0 := by omega
theorem sign_of {v t : Int} {p : Nat} (hp0 : 0 < p) (ht : v = (p : Int) * t) : decide (v < 0) = decide (t < 0) := by
  rw [decide_eq_decide, ht]
  have hp : (0 : Int) < (p : Int) := by omega
  constructor
  · intro h
    by_cases h' : t < 0
    · exact h'
    · have := Int.mul_nonneg (Int.le_of_lt hp) (Int.not_lt.1 h')
      exact absurd h (Int.not_lt.2 this)
  · intro h; exact Int.mul_neg_of_pos_of_neg hp h
theorem nat_split (n : Nat) (h : n < 340282366920938463463374607431768211456) : n / 18446744073709551616 * 18446744073709551616 + n % 18446744073709551616 = n ∧ n / 18446744073709551616 < 18446744073709551616 ∧ n % 18446744073709551616 < 18446744073709551616 := by omega
theorem sum_bound {x y : Int} (hx : x.natAbs ≤ 9223372036854775808 * 9223372036854775808) (hy : y.natAbs ≤ 9223372036854775808 * 9223372036854775808) : (x + y).natAbs < 340282366920938463463374607431768211456 := by omega
theorem prod_bound {x : Int} {n : Nat} (hx : In64 x) (hn : n < 9223372036854775808) : (x * (n : Int)).natAbs ≤ 9223372036854775808 * 9223372036854775808 := by
  rw [Int.natAbs_mul]; exact Nat.mul_le_mul (natAbs_le hx) (by rw [Int.natAbs_natCast]; omega)
theorem add_run {aN bN : Int} {A B g A' B' : Nat} (h1 : In64 aN) (h3 : In64 bN) (hA : A < 9223372036854775808) (hB : B < 9223372036854775808) (hg : g = A.gcd B) (hg0 : 0 < g) (hgA : g < 9223372036854775808) (eA : A' = A / g) (eB : B' = B / g)
    {v t : Int} {p D : Nat} (hv : v = aN * (B' : Int) + bN * (A' : Int)) (hp : p = g.gcd v.natAbs) (ht : v = (p : Int) * t) (hD : D = A' * (B / p)) (hDne : D ≠ 0) (hcop : t.natAbs.gcd D = 1) :
    Ev (fun k => rat_Add.j0 k false aN (A : Int) bN (B : Int)) (out (mkRat t D)) := by
  have hp0 : 0 < p := by rw [hp]; exact Nat.gcd_pos_of_pos_left _ hg0
  have hpg : p ≤ g := by rw [hp]; exact Nat.gcd_le_left _ hg0
  have dA : A' < 9223372036854775808 := by rw [eA]; exact Nat.lt_of_le_of_lt (Nat.div_le_self _ _) hA
  have dB : B' < 9223372036854775808 := by rw [eB]; exact Nat.lt_of_le_of_lt (Nat.div_le_self _ _) hB
  have dP : B / p < 9223372036854775808 := Nat.lt_of_le_of_lt (Nat.div_le_self _ _) hB
  obtain ⟨m, hs, hm⟩ := sum_ev aN (B' : Int) bN (A' : Int) h1 (in64_nat dB) h3 (in64_nat dA) v hv
  have hvb : v.natAbs < 340282366920938463463374607431768211456 := by rw [hv]; exact sum_bound (prod_bound h1 dB) (prod_bound h3 dA)
  obtain ⟨ewh, hl1, hl2⟩ := nat_split _ hvb
  have HV := Aside0.mk hv; have HT := Aside0.mk ht; have HD := Aside0.mk hD; have EA := Aside0.mk eA; have EB := Aside0.mk eB; have HP := Aside0.mk hp; have HG := Aside0.mk hg
  clear hv ht hD eA eB hp hg
  have ew : wrap64 (g : Int) = (g : Int) := w64 (by omega) (by omega)
  have et : ∀ X : Nat, X < 9223372036854775808 → wrap64 (Int.tdiv (X : Int) (g : Int)) = ((X / g : Nat) : Int) := by
    intro X hX
    have hd := Nat.div_le_self X g
    rw [Int.tdiv_eq_ediv_of_nonneg (by omega), ← Int.natCast_ediv]
    generalize X / g = y at *
    exact w64 (by omega) (by omega)
  refine Ev.step (fun k => by rw [rat_Add.j0]) (Ev_neg (by simp) ?_)
  refine Ev_bnd (size_eq _ (in64_nat hA)) (Ev_bnd (size_eq _ (in64_nat hB)) (Ev.bind (common_ev _ _) ?_))
  simp only [Int.natAbs_natCast]
  rw [← HG.out, ew, et A hA, et B hB, ← EA.out, ← EB.out]
  refine Ev_neg (pos_ne hg0) (Ev.bind hs ?_)
  clear hs
  by_cases hz : v = 0
  · have t0 : t = 0 := by
      rcases Int.mul_eq_zero.1 (HT.out.symm.trans hz) with h | h
      · exact absurd h (pos_ne hp0)
      · exact h
    refine Ev_pos ((or_zero hl1 hl2).2 ⟨by rw [hz]; rfl, by rw [hz]; rfl⟩) (Ev_some fun _ => ?_)
    rw [t0, Rat.zero_mkRat, out_zero]
  · refine Ev_neg (fun h => hz ?_) ?_
    · obtain ⟨a1, a2⟩ := (or_zero hl1 hl2).1 h
      have : v.natAbs = 0 := by rw [← ewh, a1, a2]
      exact Int.natAbs_eq_zero.1 this
    have hrem := rem64_ev (v.natAbs / 18446744073709551616) (v.natAbs % 18446744073709551616) g hg0 (lt64 hgA) hl2
    rw [ewh] at hrem
    refine Ev.bind hrem (Ev.bind (common_ev _ _) ?_)
    have eg : g.gcd (v.natAbs % g) = p := by rw [Nat.gcd_comm, ← Nat.gcd_rec, HP.out]
    rw [eg]
    obtain ⟨f1, f2, f3⟩ := add_fin (D := D) hp0 HT.out m
    rw [BallQ.out_cop t D hDne hcop m (fun _ => (hm hz).trans (sign_of hp0 HT.out))]
    by_cases hh : v.natAbs / 18446744073709551616 < p
    · refine Ev_neg (by omega) ?_
      have hdiv := div64_ev (v.natAbs / 18446744073709551616) (v.natAbs % 18446744073709551616) p hh (Nat.lt_of_le_of_lt hpg (lt64 hgA)) hl2
      rw [ewh, f3] at hdiv
      refine Ev.bind hdiv (Ev_neg (pos_ne hg0) (Ev_neg (pos_ne hp0) ?_))
      rw [(sub_mul_eq (R := A) (y1 := g) (lt64 hA)).1, (sub_mul_eq (R := B) (y1 := p) (lt64 hB)).1, ← EA.out]
      refine Ev_bnd (product_eq _ _ (lt64 dA) (lt64 dP)) ?_
      rw [← HD.out]
      by_cases hDl : D < 18446744073709551616
      · refine Ev_pos (decide_eq_true hDl) ?_
        have := put_ev t.natAbs D m (f2 hh) hDl
        rw [Nat.mod_eq_of_lt hDl]
        exact Ev.bind this (Ev_some fun _ => rfl)
      · refine Ev_neg (by simpa using hDl) (Ev_some fun _ => ?_)
        unfold BallQ.put
        rw [if_neg (fun h => hDl (lt64 h.2))]
    · refine Ev_pos (by omega) (Ev_some fun _ => ?_)
      rw [f1 hh]
theorem add_ev (aN aD bN bD : Int) (h1 : In64 aN) (h2 : In64 aD) (h3 : In64 bN) (h4 : In64 bD) : Ev (fun k => rat_Add.f k aN aD bN bD) (addS aN aD bN bD) := by
  have bad : Ev (fun k => rat_Add.j0 k true aN aD bN bD) (0, 0, 2) := Ev.step (fun k => by rw [rat_Add.j0]) (Ev_pos rfl (Ev.now _))
  unfold rat_Add.f addS
  by_cases hra : Right aN aD
  · refine Ev.bind (Ev_cast (right_ev aN aD h1 h2) (decide_eq_true hra)) (Ev_pos rfl ?_)
    by_cases hrb : Right bN bD
    · rw [if_pos ⟨hra, hrb⟩]
      refine Ev.bind (Ev_cast (right_ev bN bD h3 h4) (decide_eq_true hrb)) ?_
      obtain ⟨A, rfl, hA0, hA1, hAc⟩ := right_nat hra h2
      obtain ⟨B, rfl, hB0, hB1, hBc⟩ := right_nat hrb h4
      obtain ⟨t, ht, hval, hcop, hne⟩ := BallQ.add_parts hAc hBc hA0 hB0 (aN * ((B / A.gcd B : Nat) : Int) + bN * ((A / A.gcd B : Nat) : Int)) rfl
      have eq0 : q aN (A : Int) + q bN (B : Int) = mkRat aN A + mkRat bN B := by unfold BallQ.q; simp
      rw [eq0, hval]
      have hg0 : 0 < A.gcd B := Nat.gcd_pos_of_pos_left _ hA0
      exact add_run h1 h3 hA1 hB1 rfl hg0 (Nat.lt_of_le_of_lt (Nat.gcd_le_left B hA0) hA1) rfl rfl rfl rfl ht rfl hne hcop
    · rw [if_neg (fun h => hrb h.2)]
      refine Ev.bind (Ev_cast (right_ev bN bD h3 h4) (decide_eq_false hrb)) ?_
      exact bad
  · rw [if_neg (fun h => hra h.1)]
    refine Ev.bind (Ev_cast (right_ev aN aD h1 h2) (decide_eq_false hra)) (Ev_neg (by simp) bad)
instance in64Dec (a : Int) : Decidable (BallQ.In64 a) := inferInstanceAs (Decidable (_ ∧ _))
end Go.Proofs.YtijhnmbegceonaaDoor.PRat
