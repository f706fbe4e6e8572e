-- Words and walks, cut to what this law uses (wip/pack.py).
import Derived.Test.YtijhnmbegceonaaDoorProg
import Derived.Below
import Derived.Deep.Draws
import Derived.Deep.AppendLies
import Derived.Maps.AppendAt
import Derived.OwnWalk
import Derived.Laws.BytesArg
import Derived.Laws.MakeOwn
import Derived.Laws.OwnMore
import Derived.Deep.OwnRows
import Derived.Tactics
import Derived.Lib.ConvBytes
import Derived.Laws.Slices
import Derived.WalkKit
import Derived.KernelRfl
import Derived.RowKit3
import Derived.Deep.LoopGhost
import Derived.Deep.QuietTactic
import Derived.BigQuiet
import Derived.WideLaws
import Derived.Deep.DeepCutAuto
import Derived.Deep.CutBlock
import Derived.Deep.RegionHeld3
import Derived.Laws.Rows
import Derived.Lib.AppendStr
import Derived.ArgAppend
import Derived.Laws.IdiomCopy
import Derived.OrdersHeld
import Derived.Laws.BitsLemmas
import Derived.RowKit
import Derived.Test.YtijhnmbegceonaaDoorValX9
import Derived.Test.YtijhnmbegceonaaDoorValX4
import Derived.Test.YtijhnmbegceonaaDoorValX2
import Derived.Test.YtijhnmbegceonaaDoorValX6
import Derived.Test.YtijhnmbegceonaaDoorValX5
namespace Go.Proofs.YtijhnmbegceonaaDoor.PRat
open Go.RowKit Go.Proofs.YtijhnmbegceonaaDoorW.PrintWords Go.Proofs.YtijhnmbegceonaaDoorW.PrintLast Go.Proofs.YtijhnmbegceonaaDoorW.PrintMore
attribute [local go_sem] zbr zbp zbz zby zbh zbg zbq zbo
set_option linter.unusedVariables false
set_option linter.unusedSimpArgs false
def errW : Option Int → Value
 | none => .nilIface
 | some c => .iface 0 (.int .i64 c)
theorem zas : errW none = .nilIface := rfl
theorem zar (c : Int) : errW (some c) = .iface 0 (.int .i64 c) := rfl
end Go.Proofs.YtijhnmbegceonaaDoor.PRat
namespace Go.Proofs.YtijhnmbegceonaaDoor.PRat
open Go.RowKit Go.Proofs.YtijhnmbegceonaaDoorW.PrintWords Go.Proofs.YtijhnmbegceonaaDoorW.PrintLast Go.Proofs.YtijhnmbegceonaaDoorW.PrintMore
attribute [local go_sem] zbr zbp zbz zby zbh zbg zbq zbo
set_option linter.unusedVariables false
set_option linter.unusedSimpArgs false
def zaG.l0 : Nat → Int → Int → Option (Int)
 | 0, _, _ => none
 | k + 1, x0, x1 => if x1 = 0 then (some x0) else (zaG.l0 k x1 (Int.tmod x0 x1))
def zaG.f (k : Nat) (a0 : Int) (a1 : Int) : Option (Int) := zaG.l0 k a0 a1
set_option maxHeartbeats 8000000 in
set_option maxRecDepth 100000 in
theorem zaG.calls (k : Nat) (a0 : Int) (a1 : Int) (r : Int) (w : World) (h : zaG.f k a0 a1 = some r) :
  Calls Tryd.prog 59 #[.int .u64 a0, .int .u64 a1] w fun e w' => e = .returned (.int .u64 r) ∧ zaP w w' := by
 have H : (zaG.l0 k a0 a1) = some r := h
 clear h
 have H' := Aside0.mk H
 clear H
 go_enter Tryd.func59, Tryd.ntmps59
 go_wp2
 repeat (go_quiet (fail); try go_wp2)
 go_loopg [0, 1] k (fun kq v0 v1 w' => ∃ (x0_1 : Int) (x1_1 : Int), v0 = .int .u64 x0_1 ∧ v1 = .int .u64 x1_1 ∧ Aside0 (zaG.l0 kq x0_1 x1_1 = some r) ∧ Aside0 (kq ≤ k) ∧ zaP w w')
 case atStart => exact ⟨(a0), (a1), (by first | rfl | (simp; done) | (simp [*]; done)), (by first | rfl | (simp; done) | (simp [*]; done)), H', ⟨Nat.le_refl _⟩, by repeat (first | exact zaP.refl _ | apply zaP.step)⟩
 case round =>
  clear H'
  (try clear p2)
  obtain ⟨x0_1, x1_1, rfl, rfl, HA, HK1, ⟨m1, rfl⟩⟩ := hrel
  cases gk with
  | zero => exact absurd HA.out (by simp [zaG.l0])
  | succ k1 =>
   have H := HA.out
   clear HA
   simp only [zaG.l0] at H
   by_cases c3 : x1_1 = 0
   ·rw [if_pos c3] at H
    have c3b0 : (x1_1 == 0) = true := beq_iff_eq.mpr c3
    have c3b1 : (x1_1 != 0) = false := bne_eq_false_iff_eq.mpr c3
    clear c3
    obtain rfl := Option.some.inj H
    go_wp2
    repeat (go_quiet (fail); try go_wp2)
    go_ret
    exact ⟨by first | rfl | (simp; done) | (simp [*]; done), by repeat (first | exact zaP.refl _ | apply zaP.step)⟩
   ·rw [if_neg c3] at H
    have c3b0 : (x1_1 == 0) = false := beq_eq_false_iff_ne.mpr c3
    have c3b1 : (x1_1 != 0) = true := bne_iff_ne.mpr c3
    have H' := Aside0.mk H
    clear H
    go_wp2
    repeat (go_quiet (fail); try go_wp2)
    go_roundg k1
    case measure => have := HK1.out; omega
    case rel => exact ⟨(x1_1), (Int.tmod x0_1 x1_1), (by first | rfl | (simp; done) | (simp [*]; done)), (by first | rfl | (simp; done) | (simp [*]; done)), H', ⟨by have := HK1.out; omega⟩, by repeat (first | exact zaP.refl _ | apply zaP.step)⟩
def zaH.f (a0 : Int) : Option (Int) := if a0 < 0 then (some (IntKind.u64.wrap (-(IntKind.u64.wrap (a0))))) else (some (IntKind.u64.wrap (a0)))
set_option maxHeartbeats 8000000 in
set_option maxRecDepth 100000 in
theorem zaH.calls (a0 : Int) (r : Int) (w : World) (h : zaH.f a0 = some r) :
  Calls Tryd.prog 60 #[.int .i64 a0] w fun e w' => e = .returned (.int .u64 r) ∧ zaP w w' := by
 have H : (if a0 < 0 then (some (IntKind.u64.wrap (-(IntKind.u64.wrap (a0))))) else (some (IntKind.u64.wrap (a0)))) = some r := h
 clear h
 by_cases c2 : a0 < 0
 ·rw [if_pos c2] at H
  have c2b0 : decide (a0 < 0) = true := decide_eq_true c2
  clear c2
  obtain rfl := Option.some.inj H
  go_enter Tryd.func60, Tryd.ntmps60
  go_wp2
  go_ret
  exact ⟨by first | rfl | (simp; done) | (simp [*]; done), by repeat (first | exact zaP.refl _ | apply zaP.step)⟩
 ·rw [if_neg c2] at H
  have c2b0 : decide (a0 < 0) = false := decide_eq_false c2
  clear c2
  obtain rfl := Option.some.inj H
  go_enter Tryd.func60, Tryd.ntmps60
  go_wp2
  go_ret
  exact ⟨by first | rfl | (simp; done) | (simp [*]; done), by repeat (first | exact zaP.refl _ | apply zaP.step)⟩
def zaZ.f (k : Nat) (a0_0 : Int) (a0_1 : Int) : Option (Bool) := if a0_1 > 0 then (if a0_0 = (-9223372036854775808) then (some false) else ((zaH.f a0_0).bind fun t102 => ((zaH.f a0_1).bind fun t103 => ((zaG.f k t102 t103).bind fun t104 => (some (t104 == 1)))))) else (some false)
set_option maxHeartbeats 8000000 in
set_option maxRecDepth 100000 in
theorem zaZ.calls (k : Nat) (a0_0 : Int) (a0_1 : Int) (r : Bool) (w : World) (h : zaZ.f k a0_0 a0_1 = some r) :
  Calls Tryd.prog 37 #[.agg #[.int .i64 a0_0, .int .i64 a0_1]] w fun e w' => e = .returned (.bool r) ∧ Below w.heap.size w w' := by
 have hu24 := Tryd.underlying24
 have HB := Aside0.mk (Below.refl w.heap.size w)
 have H : (if a0_1 > 0 then (if a0_0 = (-9223372036854775808) then (some false) else ((zaH.f a0_0).bind fun t102 => ((zaH.f a0_1).bind fun t103 => ((zaG.f k t102 t103).bind fun t104 => (some (t104 == 1)))))) else (some false)) = some r := h
 clear h
 by_cases c2 : a0_1 > 0
 ·rw [if_pos c2] at H
  have c2b0 : decide (0 < a0_1) = true := decide_eq_true c2
  clear c2
  by_cases c3 : a0_0 = (-9223372036854775808)
  ·rw [if_pos c3] at H
   have c3b0 : (a0_0 == (-9223372036854775808)) = true := beq_iff_eq.mpr c3
   have c3b1 : (a0_0 != (-9223372036854775808)) = false := bne_eq_false_iff_eq.mpr c3
   clear c3
   obtain rfl := Option.some.inj H
   go_enter Tryd.func37, Tryd.ntmps37
   go_wp2_with (first | ((with_reducible refine zaK (N := 1) rfl ?_); refine zaI ?hg (N := 1) ?hd (cs := #[.int .i64 a0_0, .int .i64 a0_1]) (t := 24) ?hr ?_; (case hd => rfl); (case hg => rfl); (case hr => first | (go_simp; done) | (go_simp; rfl)); intro gb101 hg w4 hbox hb; have n0_ := Aside0.mk (zam (by repeat (first | (with_reducible first | exact HB.out | apply zac | apply zaa | apply zaf) | exact HB.out)) hb); have n1_ := Aside0.mk (hbox); have n2_ := Aside0.mk ((by rw [hg]; exact (zao (by repeat (first | (with_reducible first | exact HB.out | apply zac | apply zaa | apply zaf) | exact HB.out))) : w.heap.size ≤ gb101)); have n3_ := n2_; clear HB; have HB := n0_; have BK101 := n1_; have GW101 := n2_; have GE101 := n3_; clear n0_ n1_ n2_ n3_; clear hb hbox hg; have hcz5_0 : w4.cell? ⟨gb101, 0, none⟩ = some (.int .i64 a0_0) := (zak BK101.out 0).trans rfl; have hcz5_1 : w4.cell? ⟨gb101, 1, none⟩ = some (.int .i64 a0_1) := (zak BK101.out 1).trans rfl; have hfz5_0 := zah BK101.out 0; have hfz5_1 := zah BK101.out 1))
   repeat (go_quiet (first | ((with_reducible refine zaK (N := 1) rfl ?_); refine zaI ?hg (N := 1) ?hd (cs := #[.int .i64 a0_0, .int .i64 a0_1]) (t := 24) ?hr ?_; (case hd => rfl); (case hg => rfl); (case hr => first | (go_simp; done) | (go_simp; rfl)); intro gb101 hg w4 hbox hb; have n0_ := Aside0.mk (zam (by repeat (first | (with_reducible first | exact HB.out | apply zac | apply zaa | apply zaf) | exact HB.out)) hb); have n1_ := Aside0.mk (hbox); have n2_ := Aside0.mk ((by rw [hg]; exact (zao (by repeat (first | (with_reducible first | exact HB.out | apply zac | apply zaa | apply zaf) | exact HB.out))) : w.heap.size ≤ gb101)); have n3_ := n2_; clear HB; have HB := n0_; have BK101 := n1_; have GW101 := n2_; have GE101 := n3_; clear n0_ n1_ n2_ n3_; clear hb hbox hg; have hcz5_0 : w4.cell? ⟨gb101, 0, none⟩ = some (.int .i64 a0_0) := (zak BK101.out 0).trans rfl; have hcz5_1 : w4.cell? ⟨gb101, 1, none⟩ = some (.int .i64 a0_1) := (zak BK101.out 1).trans rfl; have hfz5_0 := zah BK101.out 0; have hfz5_1 := zah BK101.out 1)); try go_wp2_with (first | ((with_reducible refine zaK (N := 1) rfl ?_); refine zaI ?hg (N := 1) ?hd (cs := #[.int .i64 a0_0, .int .i64 a0_1]) (t := 24) ?hr ?_; (case hd => rfl); (case hg => rfl); (case hr => first | (go_simp; done) | (go_simp; rfl)); intro gb101 hg w4 hbox hb; have n0_ := Aside0.mk (zam (by repeat (first | (with_reducible first | exact HB.out | apply zac | apply zaa | apply zaf) | exact HB.out)) hb); have n1_ := Aside0.mk (hbox); have n2_ := Aside0.mk ((by rw [hg]; exact (zao (by repeat (first | (with_reducible first | exact HB.out | apply zac | apply zaa | apply zaf) | exact HB.out))) : w.heap.size ≤ gb101)); have n3_ := n2_; clear HB; have HB := n0_; have BK101 := n1_; have GW101 := n2_; have GE101 := n3_; clear n0_ n1_ n2_ n3_; clear hb hbox hg; have hcz5_0 : w4.cell? ⟨gb101, 0, none⟩ = some (.int .i64 a0_0) := (zak BK101.out 0).trans rfl; have hcz5_1 : w4.cell? ⟨gb101, 1, none⟩ = some (.int .i64 a0_1) := (zak BK101.out 1).trans rfl; have hfz5_0 := zah BK101.out 0; have hfz5_1 := zah BK101.out 1)))
   go_ret
   exact ⟨by first | rfl | (simp [zas, zar] <;> rfl) | (simp [*, zas, zar] <;> rfl), by repeat (first | (with_reducible first | exact HB.out | apply zac | apply zaa | apply zaf | refine zab ?_ GE101.out) | exact HB.out)⟩
  ·rw [if_neg c3] at H
   have c3b0 : (a0_0 == (-9223372036854775808)) = false := beq_eq_false_iff_ne.mpr c3
   have c3b1 : (a0_0 != (-9223372036854775808)) = true := bne_iff_ne.mpr c3
   replace H := Option.bind_eq_some_iff.mp H
   obtain ⟨t102, A60, H⟩ := H
   replace H : ((zaH.f a0_1).bind fun t103 => ((zaG.f k t102 t103).bind fun t104 => (some (t104 == 1)))) = some r := H
   have A6 := Aside0.mk A60
   clear A60
   replace H := Option.bind_eq_some_iff.mp H
   obtain ⟨t103, A70, H⟩ := H
   replace H : ((zaG.f k t102 t103).bind fun t104 => (some (t104 == 1))) = some r := H
   have A7 := Aside0.mk A70
   clear A70
   replace H := Option.bind_eq_some_iff.mp H
   obtain ⟨t104, A80, H⟩ := H
   replace H : (some (t104 == 1)) = some r := H
   have A8 := Aside0.mk A80
   clear A80
   obtain rfl := Option.some.inj H
   go_enter Tryd.func37, Tryd.ntmps37
   go_wp2_with (first | ((with_reducible refine zaK (N := 1) rfl ?_); refine zaI ?hg (N := 1) ?hd (cs := #[.int .i64 a0_0, .int .i64 a0_1]) (t := 24) ?hr ?_; (case hd => rfl); (case hg => rfl); (case hr => first | (go_simp; done) | (go_simp; rfl)); intro gb101 hg w9 hbox hb; have n0_ := Aside0.mk (zam (by repeat (first | (with_reducible first | exact HB.out | apply zac | apply zaa | apply zaf) | exact HB.out)) hb); have n1_ := Aside0.mk (hbox); have n2_ := Aside0.mk ((by rw [hg]; exact (zao (by repeat (first | (with_reducible first | exact HB.out | apply zac | apply zaa | apply zaf) | exact HB.out))) : w.heap.size ≤ gb101)); have n3_ := n2_; clear HB; have HB := n0_; have BK101 := n1_; have GW101 := n2_; have GE101 := n3_; clear n0_ n1_ n2_ n3_; clear hb hbox hg; have hcz10_0 : w9.cell? ⟨gb101, 0, none⟩ = some (.int .i64 a0_0) := (zak BK101.out 0).trans rfl; have hcz10_1 : w9.cell? ⟨gb101, 1, none⟩ = some (.int .i64 a0_1) := (zak BK101.out 1).trans rfl; have hfz10_0 := zah BK101.out 0; have hfz10_1 := zah BK101.out 1) | (go_at_call 60; (with_reducible refine (zaH.calls a0_0 t102 _ A6.out).mono ?_); rintro e w' ⟨rfl, ⟨nd, rfl⟩⟩; (try first | exact ⟨rfl, _, World.drewN_drewN _ _ _⟩ | exact ⟨rfl, _, Eq.trans (World.drewN_drewN _ _ _) (congrArg (World.drewN _) (Nat.add_assoc _ _ _))⟩)) | (go_at_call 60; (with_reducible refine (zaH.calls a0_1 t103 _ A7.out).mono ?_); rintro e w' ⟨rfl, ⟨nd, rfl⟩⟩; (try first | exact ⟨rfl, _, World.drewN_drewN _ _ _⟩ | exact ⟨rfl, _, Eq.trans (World.drewN_drewN _ _ _) (congrArg (World.drewN _) (Nat.add_assoc _ _ _))⟩)) | (go_at_call 59; (with_reducible refine (zaG.calls k t102 t103 t104 _ A8.out).mono ?_); rintro e w' ⟨rfl, ⟨nd, rfl⟩⟩; (try first | exact ⟨rfl, _, World.drewN_drewN _ _ _⟩ | exact ⟨rfl, _, Eq.trans (World.drewN_drewN _ _ _) (congrArg (World.drewN _) (Nat.add_assoc _ _ _))⟩)))
   repeat (go_quiet (first | ((with_reducible refine zaK (N := 1) rfl ?_); refine zaI ?hg (N := 1) ?hd (cs := #[.int .i64 a0_0, .int .i64 a0_1]) (t := 24) ?hr ?_; (case hd => rfl); (case hg => rfl); (case hr => first | (go_simp; done) | (go_simp; rfl)); intro gb101 hg w9 hbox hb; have n0_ := Aside0.mk (zam (by repeat (first | (with_reducible first | exact HB.out | apply zac | apply zaa | apply zaf) | exact HB.out)) hb); have n1_ := Aside0.mk (hbox); have n2_ := Aside0.mk ((by rw [hg]; exact (zao (by repeat (first | (with_reducible first | exact HB.out | apply zac | apply zaa | apply zaf) | exact HB.out))) : w.heap.size ≤ gb101)); have n3_ := n2_; clear HB; have HB := n0_; have BK101 := n1_; have GW101 := n2_; have GE101 := n3_; clear n0_ n1_ n2_ n3_; clear hb hbox hg; have hcz10_0 : w9.cell? ⟨gb101, 0, none⟩ = some (.int .i64 a0_0) := (zak BK101.out 0).trans rfl; have hcz10_1 : w9.cell? ⟨gb101, 1, none⟩ = some (.int .i64 a0_1) := (zak BK101.out 1).trans rfl; have hfz10_0 := zah BK101.out 0; have hfz10_1 := zah BK101.out 1) | (go_at_call 60; (with_reducible refine (zaH.calls a0_0 t102 _ A6.out).mono ?_); rintro e w' ⟨rfl, ⟨nd, rfl⟩⟩; (try first | exact ⟨rfl, _, World.drewN_drewN _ _ _⟩ | exact ⟨rfl, _, Eq.trans (World.drewN_drewN _ _ _) (congrArg (World.drewN _) (Nat.add_assoc _ _ _))⟩)) | (go_at_call 60; (with_reducible refine (zaH.calls a0_1 t103 _ A7.out).mono ?_); rintro e w' ⟨rfl, ⟨nd, rfl⟩⟩; (try first | exact ⟨rfl, _, World.drewN_drewN _ _ _⟩ | exact ⟨rfl, _, Eq.trans (World.drewN_drewN _ _ _) (congrArg (World.drewN _) (Nat.add_assoc _ _ _))⟩)) | (go_at_call 59; (with_reducible refine (zaG.calls k t102 t103 t104 _ A8.out).mono ?_); rintro e w' ⟨rfl, ⟨nd, rfl⟩⟩; (try first | exact ⟨rfl, _, World.drewN_drewN _ _ _⟩ | exact ⟨rfl, _, Eq.trans (World.drewN_drewN _ _ _) (congrArg (World.drewN _) (Nat.add_assoc _ _ _))⟩))); try go_wp2_with (first | ((with_reducible refine zaK (N := 1) rfl ?_); refine zaI ?hg (N := 1) ?hd (cs := #[.int .i64 a0_0, .int .i64 a0_1]) (t := 24) ?hr ?_; (case hd => rfl); (case hg => rfl); (case hr => first | (go_simp; done) | (go_simp; rfl)); intro gb101 hg w9 hbox hb; have n0_ := Aside0.mk (zam (by repeat (first | (with_reducible first | exact HB.out | apply zac | apply zaa | apply zaf) | exact HB.out)) hb); have n1_ := Aside0.mk (hbox); have n2_ := Aside0.mk ((by rw [hg]; exact (zao (by repeat (first | (with_reducible first | exact HB.out | apply zac | apply zaa | apply zaf) | exact HB.out))) : w.heap.size ≤ gb101)); have n3_ := n2_; clear HB; have HB := n0_; have BK101 := n1_; have GW101 := n2_; have GE101 := n3_; clear n0_ n1_ n2_ n3_; clear hb hbox hg; have hcz10_0 : w9.cell? ⟨gb101, 0, none⟩ = some (.int .i64 a0_0) := (zak BK101.out 0).trans rfl; have hcz10_1 : w9.cell? ⟨gb101, 1, none⟩ = some (.int .i64 a0_1) := (zak BK101.out 1).trans rfl; have hfz10_0 := zah BK101.out 0; have hfz10_1 := zah BK101.out 1) | (go_at_call 60; (with_reducible refine (zaH.calls a0_0 t102 _ A6.out).mono ?_); rintro e w' ⟨rfl, ⟨nd, rfl⟩⟩; (try first | exact ⟨rfl, _, World.drewN_drewN _ _ _⟩ | exact ⟨rfl, _, Eq.trans (World.drewN_drewN _ _ _) (congrArg (World.drewN _) (Nat.add_assoc _ _ _))⟩)) | (go_at_call 60; (with_reducible refine (zaH.calls a0_1 t103 _ A7.out).mono ?_); rintro e w' ⟨rfl, ⟨nd, rfl⟩⟩; (try first | exact ⟨rfl, _, World.drewN_drewN _ _ _⟩ | exact ⟨rfl, _, Eq.trans (World.drewN_drewN _ _ _) (congrArg (World.drewN _) (Nat.add_assoc _ _ _))⟩)) | (go_at_call 59; (with_reducible refine (zaG.calls k t102 t103 t104 _ A8.out).mono ?_); rintro e w' ⟨rfl, ⟨nd, rfl⟩⟩; (try first | exact ⟨rfl, _, World.drewN_drewN _ _ _⟩ | exact ⟨rfl, _, Eq.trans (World.drewN_drewN _ _ _) (congrArg (World.drewN _) (Nat.add_assoc _ _ _))⟩))))
   go_ret
   exact ⟨by first | rfl | (simp [zas, zar] <;> rfl) | (simp [*, zas, zar] <;> rfl), by repeat (first | (with_reducible first | exact HB.out | apply zac | apply zaa | apply zaf | refine zab ?_ GE101.out) | exact HB.out)⟩
 ·rw [if_neg c2] at H
  have c2b0 : decide (0 < a0_1) = false := decide_eq_false c2
  clear c2
  obtain rfl := Option.some.inj H
  go_enter Tryd.func37, Tryd.ntmps37
  go_wp2_with (first | ((with_reducible refine zaK (N := 1) rfl ?_); refine zaI ?hg (N := 1) ?hd (cs := #[.int .i64 a0_0, .int .i64 a0_1]) (t := 24) ?hr ?_; (case hd => rfl); (case hg => rfl); (case hr => first | (go_simp; done) | (go_simp; rfl)); intro gb101 hg w11 hbox hb; have n0_ := Aside0.mk (zam (by repeat (first | (with_reducible first | exact HB.out | apply zac | apply zaa | apply zaf) | exact HB.out)) hb); have n1_ := Aside0.mk (hbox); have n2_ := Aside0.mk ((by rw [hg]; exact (zao (by repeat (first | (with_reducible first | exact HB.out | apply zac | apply zaa | apply zaf) | exact HB.out))) : w.heap.size ≤ gb101)); have n3_ := n2_; clear HB; have HB := n0_; have BK101 := n1_; have GW101 := n2_; have GE101 := n3_; clear n0_ n1_ n2_ n3_; clear hb hbox hg; have hcz12_0 : w11.cell? ⟨gb101, 0, none⟩ = some (.int .i64 a0_0) := (zak BK101.out 0).trans rfl; have hcz12_1 : w11.cell? ⟨gb101, 1, none⟩ = some (.int .i64 a0_1) := (zak BK101.out 1).trans rfl; have hfz12_0 := zah BK101.out 0; have hfz12_1 := zah BK101.out 1))
  repeat (go_quiet (first | ((with_reducible refine zaK (N := 1) rfl ?_); refine zaI ?hg (N := 1) ?hd (cs := #[.int .i64 a0_0, .int .i64 a0_1]) (t := 24) ?hr ?_; (case hd => rfl); (case hg => rfl); (case hr => first | (go_simp; done) | (go_simp; rfl)); intro gb101 hg w11 hbox hb; have n0_ := Aside0.mk (zam (by repeat (first | (with_reducible first | exact HB.out | apply zac | apply zaa | apply zaf) | exact HB.out)) hb); have n1_ := Aside0.mk (hbox); have n2_ := Aside0.mk ((by rw [hg]; exact (zao (by repeat (first | (with_reducible first | exact HB.out | apply zac | apply zaa | apply zaf) | exact HB.out))) : w.heap.size ≤ gb101)); have n3_ := n2_; clear HB; have HB := n0_; have BK101 := n1_; have GW101 := n2_; have GE101 := n3_; clear n0_ n1_ n2_ n3_; clear hb hbox hg; have hcz12_0 : w11.cell? ⟨gb101, 0, none⟩ = some (.int .i64 a0_0) := (zak BK101.out 0).trans rfl; have hcz12_1 : w11.cell? ⟨gb101, 1, none⟩ = some (.int .i64 a0_1) := (zak BK101.out 1).trans rfl; have hfz12_0 := zah BK101.out 0; have hfz12_1 := zah BK101.out 1)); try go_wp2_with (first | ((with_reducible refine zaK (N := 1) rfl ?_); refine zaI ?hg (N := 1) ?hd (cs := #[.int .i64 a0_0, .int .i64 a0_1]) (t := 24) ?hr ?_; (case hd => rfl); (case hg => rfl); (case hr => first | (go_simp; done) | (go_simp; rfl)); intro gb101 hg w11 hbox hb; have n0_ := Aside0.mk (zam (by repeat (first | (with_reducible first | exact HB.out | apply zac | apply zaa | apply zaf) | exact HB.out)) hb); have n1_ := Aside0.mk (hbox); have n2_ := Aside0.mk ((by rw [hg]; exact (zao (by repeat (first | (with_reducible first | exact HB.out | apply zac | apply zaa | apply zaf) | exact HB.out))) : w.heap.size ≤ gb101)); have n3_ := n2_; clear HB; have HB := n0_; have BK101 := n1_; have GW101 := n2_; have GE101 := n3_; clear n0_ n1_ n2_ n3_; clear hb hbox hg; have hcz12_0 : w11.cell? ⟨gb101, 0, none⟩ = some (.int .i64 a0_0) := (zak BK101.out 0).trans rfl; have hcz12_1 : w11.cell? ⟨gb101, 1, none⟩ = some (.int .i64 a0_1) := (zak BK101.out 1).trans rfl; have hfz12_0 := zah BK101.out 0; have hfz12_1 := zah BK101.out 1)))
  go_ret
  exact ⟨by first | rfl | (simp [zas, zar] <;> rfl) | (simp [*, zas, zar] <;> rfl), by repeat (first | (with_reducible first | exact HB.out | apply zac | apply zaa | apply zaf | refine zab ?_ GE101.out) | exact HB.out)⟩
def bits_Mul64.f (a0 : Int) (a1 : Int) : Option (Int × Int) := some (IntKind.u64.wrap ((IntKind.u64.wrap ((IntKind.u64.wrap ((a0 / 4294967296) * (a1 / 4294967296))) + ((IntKind.u64.wrap ((IntKind.u64.wrap ((a0 / 4294967296) * (Go.bits .and .u64 a1 4294967295))) + ((IntKind.u64.wrap ((Go.bits .and .u64 a0 4294967295) * (Go.bits .and .u64 a1 4294967295))) / 4294967296))) / 4294967296))) + ((IntKind.u64.wrap ((Go.bits .and .u64 (IntKind.u64.wrap ((IntKind.u64.wrap ((a0 / 4294967296) * (Go.bits .and .u64 a1 4294967295))) + ((IntKind.u64.wrap ((Go.bits .and .u64 a0 4294967295) * (Go.bits .and .u64 a1 4294967295))) / 4294967296))) 4294967295) + (IntKind.u64.wrap ((Go.bits .and .u64 a0 4294967295) * (a1 / 4294967296))))) / 4294967296)), IntKind.u64.wrap (a0 * a1))
set_option maxHeartbeats 8000000 in
set_option maxRecDepth 100000 in
theorem bits_Mul64.calls (a0 : Int) (a1 : Int) (r1 : Int) (r2 : Int) (w : World) (h : bits_Mul64.f a0 a1 = some (r1, r2)) :
  Calls Tryd.prog 77 #[.int .u64 a0, .int .u64 a1] w fun e w' => e = .returned (.tuple #[.int .u64 r1, .int .u64 r2]) ∧ zaP w w' := by
 have H : (some (IntKind.u64.wrap ((IntKind.u64.wrap ((IntKind.u64.wrap ((a0 / 4294967296) * (a1 / 4294967296))) + ((IntKind.u64.wrap ((IntKind.u64.wrap ((a0 / 4294967296) * (Go.bits .and .u64 a1 4294967295))) + ((IntKind.u64.wrap ((Go.bits .and .u64 a0 4294967295) * (Go.bits .and .u64 a1 4294967295))) / 4294967296))) / 4294967296))) + ((IntKind.u64.wrap ((Go.bits .and .u64 (IntKind.u64.wrap ((IntKind.u64.wrap ((a0 / 4294967296) * (Go.bits .and .u64 a1 4294967295))) + ((IntKind.u64.wrap ((Go.bits .and .u64 a0 4294967295) * (Go.bits .and .u64 a1 4294967295))) / 4294967296))) 4294967295) + (IntKind.u64.wrap ((Go.bits .and .u64 a0 4294967295) * (a1 / 4294967296))))) / 4294967296)), IntKind.u64.wrap (a0 * a1))) = some (r1, r2) := h
 clear h
 simp only [Option.some.injEq, Prod.mk.injEq] at H
 obtain ⟨rfl, rfl⟩ := H
 go_enter Tryd.func77, Tryd.ntmps77
 go_wp2
 go_ret2
 exact ⟨by first | rfl | (simp; done) | (simp [*]; done), by repeat (first | exact zaP.refl _ | apply zaP.step)⟩
def bits_Add64.f (a0 : Int) (a1 : Int) (a2 : Int) : Option (Int × Int) := if 0 ≤ a0 ∧ 0 ≤ a1 ∧ 0 ≤ a2 ∧ a2 ≤ 1 then some ((a0 + a1 + a2) % 18446744073709551616, (a0 + a1 + a2) / 18446744073709551616) else none
theorem bits_Add64.calls (a0 : Int) (a1 : Int) (a2 : Int) (r1 : Int) (r2 : Int) (w : World) (h : bits_Add64.f a0 a1 a2 = some (r1, r2)) :
  zdV Tryd.prog 78 #[.int .u64 a0, .int .u64 a1, .int .u64 a2] w fun e w' => e = .returned (.tuple #[.int .u64 r1, .int .u64 r2]) ∧ zaP w w' := by
 unfold bits_Add64.f at h
 split at h
 ·rename_i hc
  have e := Option.some.inj h
  simp only [Prod.mk.injEq] at e
  obtain ⟨rfl, rfl⟩ := e
  obtain ⟨h0, h1, h2, h3⟩ := hc
  refine ⟨_, ?_, rfl, zaP.refl _⟩
  rw [run_callFunc_extern Tryd.func78 (by kernel_rfl) (by kernel_rfl) (by kernel_rfl) (e := add64Entry) (by kernel_rfl), run_add64 a0 a1 a2 h0 h1 h2 h3]
  rfl
 ·cases h
def bits_Sub64.f (a0 : Int) (a1 : Int) (a2 : Int) : Option (Int × Int) := if 0 ≤ a0 ∧ 0 ≤ a1 ∧ 0 ≤ a2 ∧ a2 ≤ 1 ∧ a1 < 18446744073709551616 then some ((a0 + 18446744073709551616 - a1 - a2) % 18446744073709551616, if a0 < a1 + a2 then 1 else 0) else none
theorem bits_Sub64.calls (a0 : Int) (a1 : Int) (a2 : Int) (r1 : Int) (r2 : Int) (w : World) (h : bits_Sub64.f a0 a1 a2 = some (r1, r2)) :
  zdV Tryd.prog 79 #[.int .u64 a0, .int .u64 a1, .int .u64 a2] w fun e w' => e = .returned (.tuple #[.int .u64 r1, .int .u64 r2]) ∧ zaP w w' := by
 unfold bits_Sub64.f at h
 split at h
 ·rename_i hc
  have e := Option.some.inj h
  simp only [Prod.mk.injEq] at e
  obtain ⟨rfl, rfl⟩ := e
  obtain ⟨h0, h1, h2, h3, h4⟩ := hc
  obtain ⟨x, rfl⟩ := Int.eq_ofNat_of_zero_le h0
  obtain ⟨y, rfl⟩ := Int.eq_ofNat_of_zero_le h1
  obtain ⟨b, rfl⟩ := Int.eq_ofNat_of_zero_le h2
  refine ⟨_, ?_, rfl, zaP.refl _⟩
  rw [run_callFunc_extern Tryd.func79 (by kernel_rfl) (by kernel_rfl) (by kernel_rfl) (e := ze3) (by kernel_rfl), zhj x y b (by omega)]
  simp only [Result.andThen]
  have e1 : (((x + 18446744073709551616 - y - b) % 18446744073709551616 : Nat) : Int) = ((x : Int) + 18446744073709551616 - y - b) % 18446744073709551616 := by omega
  have e2 : ((if x < y + b then 1 else 0 : Nat) : Int) = if (x : Int) < y + b then 1 else 0 := by
   by_cases hlt : x < y + b
   ·rw [if_pos hlt, if_pos (by omega)]; rfl
   ·rw [if_neg hlt, if_neg (by omega)]; rfl
  rw [e1, e2]
 ·cases h
end Go.Proofs.YtijhnmbegceonaaDoor.PRat
namespace Go.Proofs.YtijhnmbegceonaaDoor.PRat
open Go.RowKit Go.Proofs.YtijhnmbegceonaaDoorW.PrintWords Go.Proofs.YtijhnmbegceonaaDoorW.PrintLast Go.Proofs.YtijhnmbegceonaaDoorW.PrintMore
attribute [local go_sem] zbr zbp zbz zby zbh zbg zbq zbo
set_option linter.unusedVariables false
set_option linter.unusedSimpArgs false
mutual
def za8.j0 : Nat → Int → Int → Int → Int → Bool → Bool → Bool → Option (Int × Int × Bool)
 | 0, _, _, _, _, _, _, _ => none
 | k + 1, x11, x12, x13, x14, x15, x16, x82 => if x82 = true then (za8.j1 k x13 x14 x11 x12 x16) else (za8.j1 k x11 x12 x13 x14 x15)
def za8.j1 : Nat → Int → Int → Int → Int → Bool → Option (Int × Int × Bool)
 | 0, _, _, _, _, _ => none
 | k + 1, x11, x12, x13, x14, x15 => (bits_Sub64.f x12 x14 0).bind fun bt117 => ((bits_Sub64.f x11 x13 bt117.2).bind fun bt119 => (some (bt119.1, bt117.1, x15)))
end
def za8.f (k : Nat) (a0 : Int) (a1 : Int) (a2 : Int) (a3 : Int) : Option (Int × Int × Bool) := (zaH.f a0).bind fun t105 => ((zaH.f a1).bind fun t106 => ((bits_Mul64.f t105 t106).bind fun bt107 => ((zaH.f a2).bind fun t109 => ((zaH.f a3).bind fun t110 => ((bits_Mul64.f t109 t110).bind fun bt111 => (if (((decide (a0 < 0)) != (decide (a1 < 0))) == ((decide (a2 < 0)) != (decide (a3 < 0)))) = true then ((bits_Add64.f bt107.2 bt111.2 0).bind fun bt113 => ((bits_Add64.f bt107.1 bt111.1 bt113.2).bind fun bt115 => (some (bt115.1, bt113.1, ((decide (a0 < 0)) != (decide (a1 < 0))))))) else (if bt107.1 < bt111.1 then (za8.j0 k bt107.1 bt107.2 bt111.1 bt111.2 ((decide (a0 < 0)) != (decide (a1 < 0))) ((decide (a2 < 0)) != (decide (a3 < 0))) true) else (if bt107.1 = bt111.1 then (za8.j0 k bt107.1 bt107.2 bt111.1 bt111.2 ((decide (a0 < 0)) != (decide (a1 < 0))) ((decide (a2 < 0)) != (decide (a3 < 0))) (decide (bt107.2 < bt111.2))) else (za8.j0 k bt107.1 bt107.2 bt111.1 bt111.2 ((decide (a0 < 0)) != (decide (a1 < 0))) ((decide (a2 < 0)) != (decide (a3 < 0))) false)))))))))
set_option maxHeartbeats 8000000 in
set_option maxRecDepth 100000 in
theorem za8.calls (k : Nat) (a0 : Int) (a1 : Int) (a2 : Int) (a3 : Int) (r1 : Int) (r2 : Int) (r3 : Bool) (w : World) (h : za8.f k a0 a1 a2 a3 = some (r1, r2, r3)) :
  Calls Tryd.prog 62 #[.int .i64 a0, .int .i64 a1, .int .i64 a2, .int .i64 a3] w fun e w' => e = .returned (.tuple #[.int .u64 r1, .int .u64 r2, .bool r3]) ∧ zaP w w' := by
 have H : ((zaH.f a0).bind fun t105 => ((zaH.f a1).bind fun t106 => ((bits_Mul64.f t105 t106).bind fun bt107 => ((zaH.f a2).bind fun t109 => ((zaH.f a3).bind fun t110 => ((bits_Mul64.f t109 t110).bind fun bt111 => (if (((decide (a0 < 0)) != (decide (a1 < 0))) == ((decide (a2 < 0)) != (decide (a3 < 0)))) = true then ((bits_Add64.f bt107.2 bt111.2 0).bind fun bt113 => ((bits_Add64.f bt107.1 bt111.1 bt113.2).bind fun bt115 => (some (bt115.1, bt113.1, ((decide (a0 < 0)) != (decide (a1 < 0))))))) else (if bt107.1 < bt111.1 then (za8.j0 k bt107.1 bt107.2 bt111.1 bt111.2 ((decide (a0 < 0)) != (decide (a1 < 0))) ((decide (a2 < 0)) != (decide (a3 < 0))) true) else (if bt107.1 = bt111.1 then (za8.j0 k bt107.1 bt107.2 bt111.1 bt111.2 ((decide (a0 < 0)) != (decide (a1 < 0))) ((decide (a2 < 0)) != (decide (a3 < 0))) (decide (bt107.2 < bt111.2))) else (za8.j0 k bt107.1 bt107.2 bt111.1 bt111.2 ((decide (a0 < 0)) != (decide (a1 < 0))) ((decide (a2 < 0)) != (decide (a3 < 0))) false)))))))))) = some (r1, r2, r3) := h
 clear h
 replace H := Option.bind_eq_some_iff.mp H
 obtain ⟨t105, A50, H⟩ := H
 replace H : ((zaH.f a1).bind fun t106 => ((bits_Mul64.f t105 t106).bind fun bt107 => ((zaH.f a2).bind fun t109 => ((zaH.f a3).bind fun t110 => ((bits_Mul64.f t109 t110).bind fun bt111 => (if (((decide (a0 < 0)) != (decide (a1 < 0))) == ((decide (a2 < 0)) != (decide (a3 < 0)))) = true then ((bits_Add64.f bt107.2 bt111.2 0).bind fun bt113 => ((bits_Add64.f bt107.1 bt111.1 bt113.2).bind fun bt115 => (some (bt115.1, bt113.1, ((decide (a0 < 0)) != (decide (a1 < 0))))))) else (if bt107.1 < bt111.1 then (za8.j0 k bt107.1 bt107.2 bt111.1 bt111.2 ((decide (a0 < 0)) != (decide (a1 < 0))) ((decide (a2 < 0)) != (decide (a3 < 0))) true) else (if bt107.1 = bt111.1 then (za8.j0 k bt107.1 bt107.2 bt111.1 bt111.2 ((decide (a0 < 0)) != (decide (a1 < 0))) ((decide (a2 < 0)) != (decide (a3 < 0))) (decide (bt107.2 < bt111.2))) else (za8.j0 k bt107.1 bt107.2 bt111.1 bt111.2 ((decide (a0 < 0)) != (decide (a1 < 0))) ((decide (a2 < 0)) != (decide (a3 < 0))) false))))))))) = some (r1, r2, r3) := H
 have A5 := Aside0.mk A50
 clear A50
 replace H := Option.bind_eq_some_iff.mp H
 obtain ⟨t106, A60, H⟩ := H
 replace H : ((bits_Mul64.f t105 t106).bind fun bt107 => ((zaH.f a2).bind fun t109 => ((zaH.f a3).bind fun t110 => ((bits_Mul64.f t109 t110).bind fun bt111 => (if (((decide (a0 < 0)) != (decide (a1 < 0))) == ((decide (a2 < 0)) != (decide (a3 < 0)))) = true then ((bits_Add64.f bt107.2 bt111.2 0).bind fun bt113 => ((bits_Add64.f bt107.1 bt111.1 bt113.2).bind fun bt115 => (some (bt115.1, bt113.1, ((decide (a0 < 0)) != (decide (a1 < 0))))))) else (if bt107.1 < bt111.1 then (za8.j0 k bt107.1 bt107.2 bt111.1 bt111.2 ((decide (a0 < 0)) != (decide (a1 < 0))) ((decide (a2 < 0)) != (decide (a3 < 0))) true) else (if bt107.1 = bt111.1 then (za8.j0 k bt107.1 bt107.2 bt111.1 bt111.2 ((decide (a0 < 0)) != (decide (a1 < 0))) ((decide (a2 < 0)) != (decide (a3 < 0))) (decide (bt107.2 < bt111.2))) else (za8.j0 k bt107.1 bt107.2 bt111.1 bt111.2 ((decide (a0 < 0)) != (decide (a1 < 0))) ((decide (a2 < 0)) != (decide (a3 < 0))) false)))))))) = some (r1, r2, r3) := H
 have A6 := Aside0.mk A60
 clear A60
 replace H := Option.bind_eq_some_iff.mp H
 obtain ⟨⟨t107, t108⟩, A70, H⟩ := H
 replace H : ((zaH.f a2).bind fun t109 => ((zaH.f a3).bind fun t110 => ((bits_Mul64.f t109 t110).bind fun bt111 => (if (((decide (a0 < 0)) != (decide (a1 < 0))) == ((decide (a2 < 0)) != (decide (a3 < 0)))) = true then ((bits_Add64.f t108 bt111.2 0).bind fun bt113 => ((bits_Add64.f t107 bt111.1 bt113.2).bind fun bt115 => (some (bt115.1, bt113.1, ((decide (a0 < 0)) != (decide (a1 < 0))))))) else (if t107 < bt111.1 then (za8.j0 k t107 t108 bt111.1 bt111.2 ((decide (a0 < 0)) != (decide (a1 < 0))) ((decide (a2 < 0)) != (decide (a3 < 0))) true) else (if t107 = bt111.1 then (za8.j0 k t107 t108 bt111.1 bt111.2 ((decide (a0 < 0)) != (decide (a1 < 0))) ((decide (a2 < 0)) != (decide (a3 < 0))) (decide (t108 < bt111.2))) else (za8.j0 k t107 t108 bt111.1 bt111.2 ((decide (a0 < 0)) != (decide (a1 < 0))) ((decide (a2 < 0)) != (decide (a3 < 0))) false))))))) = some (r1, r2, r3) := H
 have A7 := Aside0.mk A70
 clear A70
 replace H := Option.bind_eq_some_iff.mp H
 obtain ⟨t109, A80, H⟩ := H
 replace H : ((zaH.f a3).bind fun t110 => ((bits_Mul64.f t109 t110).bind fun bt111 => (if (((decide (a0 < 0)) != (decide (a1 < 0))) == ((decide (a2 < 0)) != (decide (a3 < 0)))) = true then ((bits_Add64.f t108 bt111.2 0).bind fun bt113 => ((bits_Add64.f t107 bt111.1 bt113.2).bind fun bt115 => (some (bt115.1, bt113.1, ((decide (a0 < 0)) != (decide (a1 < 0))))))) else (if t107 < bt111.1 then (za8.j0 k t107 t108 bt111.1 bt111.2 ((decide (a0 < 0)) != (decide (a1 < 0))) ((decide (a2 < 0)) != (decide (a3 < 0))) true) else (if t107 = bt111.1 then (za8.j0 k t107 t108 bt111.1 bt111.2 ((decide (a0 < 0)) != (decide (a1 < 0))) ((decide (a2 < 0)) != (decide (a3 < 0))) (decide (t108 < bt111.2))) else (za8.j0 k t107 t108 bt111.1 bt111.2 ((decide (a0 < 0)) != (decide (a1 < 0))) ((decide (a2 < 0)) != (decide (a3 < 0))) false)))))) = some (r1, r2, r3) := H
 have A8 := Aside0.mk A80
 clear A80
 replace H := Option.bind_eq_some_iff.mp H
 obtain ⟨t110, A90, H⟩ := H
 replace H : ((bits_Mul64.f t109 t110).bind fun bt111 => (if (((decide (a0 < 0)) != (decide (a1 < 0))) == ((decide (a2 < 0)) != (decide (a3 < 0)))) = true then ((bits_Add64.f t108 bt111.2 0).bind fun bt113 => ((bits_Add64.f t107 bt111.1 bt113.2).bind fun bt115 => (some (bt115.1, bt113.1, ((decide (a0 < 0)) != (decide (a1 < 0))))))) else (if t107 < bt111.1 then (za8.j0 k t107 t108 bt111.1 bt111.2 ((decide (a0 < 0)) != (decide (a1 < 0))) ((decide (a2 < 0)) != (decide (a3 < 0))) true) else (if t107 = bt111.1 then (za8.j0 k t107 t108 bt111.1 bt111.2 ((decide (a0 < 0)) != (decide (a1 < 0))) ((decide (a2 < 0)) != (decide (a3 < 0))) (decide (t108 < bt111.2))) else (za8.j0 k t107 t108 bt111.1 bt111.2 ((decide (a0 < 0)) != (decide (a1 < 0))) ((decide (a2 < 0)) != (decide (a3 < 0))) false))))) = some (r1, r2, r3) := H
 have A9 := Aside0.mk A90
 clear A90
 replace H := Option.bind_eq_some_iff.mp H
 obtain ⟨⟨t111, t112⟩, A100, H⟩ := H
 replace H : (if (((decide (a0 < 0)) != (decide (a1 < 0))) == ((decide (a2 < 0)) != (decide (a3 < 0)))) = true then ((bits_Add64.f t108 t112 0).bind fun bt113 => ((bits_Add64.f t107 t111 bt113.2).bind fun bt115 => (some (bt115.1, bt113.1, ((decide (a0 < 0)) != (decide (a1 < 0))))))) else (if t107 < t111 then (za8.j0 k t107 t108 t111 t112 ((decide (a0 < 0)) != (decide (a1 < 0))) ((decide (a2 < 0)) != (decide (a3 < 0))) true) else (if t107 = t111 then (za8.j0 k t107 t108 t111 t112 ((decide (a0 < 0)) != (decide (a1 < 0))) ((decide (a2 < 0)) != (decide (a3 < 0))) (decide (t108 < t112))) else (za8.j0 k t107 t108 t111 t112 ((decide (a0 < 0)) != (decide (a1 < 0))) ((decide (a2 < 0)) != (decide (a3 < 0))) false)))) = some (r1, r2, r3) := H
 have A10 := Aside0.mk A100
 clear A100
 by_cases c11 : (((decide (a0 < 0)) != (decide (a1 < 0))) == ((decide (a2 < 0)) != (decide (a3 < 0)))) = true
 ·rw [if_pos c11] at H
  have c11b0 : (((decide (a0 < 0)) != (decide (a1 < 0))) == ((decide (a2 < 0)) != (decide (a3 < 0)))) = true := c11
  (try (have c11b1 : decide (((decide (a0 < 0)) != (decide (a1 < 0))) = ((decide (a2 < 0)) != (decide (a3 < 0)))) = true := by simpa using c11))
  (try (have c11b2 : (((decide (a0 < 0)) != (decide (a1 < 0))) == ((decide (a2 < 0)) != (decide (a3 < 0)))) = true := by simpa using c11))
  (try (have c11b3 : (((!((decide (a0 < 0)) == (decide (a1 < 0))))) == ((!((decide (a2 < 0)) == (decide (a3 < 0)))))) = true := by simpa [bne] using c11))
  clear c11
  replace H := Option.bind_eq_some_iff.mp H
  obtain ⟨⟨t113, t114⟩, A120, H⟩ := H
  replace H : ((bits_Add64.f t107 t111 t114).bind fun bt115 => (some (bt115.1, t113, ((decide (a0 < 0)) != (decide (a1 < 0)))))) = some (r1, r2, r3) := H
  have A12 := Aside0.mk A120
  clear A120
  replace H := Option.bind_eq_some_iff.mp H
  obtain ⟨⟨t115, t116⟩, A130, H⟩ := H
  replace H : (some (t115, t113, ((decide (a0 < 0)) != (decide (a1 < 0))))) = some (r1, r2, r3) := H
  have A13 := Aside0.mk A130
  clear A130
  simp only [Option.some.injEq, Prod.mk.injEq] at H
  obtain ⟨rfl, rfl, rfl⟩ := H
  go_enter Tryd.func62, Tryd.ntmps62
  go_wp2_with (first | ((with_reducible refine zat (f := 60) rfl ?_); refine za9 (some 27) rfl rfl Tryd.func60 (by kernel_rfl) rfl #[.int .i64 a0] rfl (by (try simp only [List.map_toArray, List.map_cons, List.map_nil]); first | done | rfl | (simp only [List.length_drop, List.length_take]; rfl)) ?_; (with_reducible refine (zaH.calls a0 t105 _ A5.out).mono ?_); rintro e w' ⟨rfl, ⟨nd, rfl⟩⟩; refine ⟨_, rfl, ?_⟩) | ((with_reducible refine zat (f := 60) rfl ?_); refine za9 (some 29) rfl rfl Tryd.func60 (by kernel_rfl) rfl #[.int .i64 a1] rfl (by (try simp only [List.map_toArray, List.map_cons, List.map_nil]); first | done | rfl | (simp only [List.length_drop, List.length_take]; rfl)) ?_; (with_reducible refine (zaH.calls a1 t106 _ A6.out).mono ?_); rintro e w' ⟨rfl, ⟨nd, rfl⟩⟩; refine ⟨_, rfl, ?_⟩) | ((with_reducible refine zat (f := 77) rfl ?_); refine za9 (some 30) rfl rfl Tryd.func77 (by kernel_rfl) rfl #[.int .u64 t105, .int .u64 t106] rfl (by (try simp only [List.map_toArray, List.map_cons, List.map_nil]); first | done | rfl | (simp only [List.length_drop, List.length_take]; rfl)) ?_; (with_reducible refine (bits_Mul64.calls t105 t106 t107 t108 _ A7.out).mono ?_); rintro e w' ⟨rfl, ⟨nd, rfl⟩⟩; refine ⟨_, rfl, ?_⟩) | ((with_reducible refine zat (f := 60) rfl ?_); refine za9 (some 35) rfl rfl Tryd.func60 (by kernel_rfl) rfl #[.int .i64 a2] rfl (by (try simp only [List.map_toArray, List.map_cons, List.map_nil]); first | done | rfl | (simp only [List.length_drop, List.length_take]; rfl)) ?_; (with_reducible refine (zaH.calls a2 t109 _ A8.out).mono ?_); rintro e w' ⟨rfl, ⟨nd, rfl⟩⟩; refine ⟨_, rfl, ?_⟩) | ((with_reducible refine zat (f := 60) rfl ?_); refine za9 (some 37) rfl rfl Tryd.func60 (by kernel_rfl) rfl #[.int .i64 a3] rfl (by (try simp only [List.map_toArray, List.map_cons, List.map_nil]); first | done | rfl | (simp only [List.length_drop, List.length_take]; rfl)) ?_; (with_reducible refine (zaH.calls a3 t110 _ A9.out).mono ?_); rintro e w' ⟨rfl, ⟨nd, rfl⟩⟩; refine ⟨_, rfl, ?_⟩) | ((with_reducible refine zat (f := 77) rfl ?_); refine za9 (some 38) rfl rfl Tryd.func77 (by kernel_rfl) rfl #[.int .u64 t109, .int .u64 t110] rfl (by (try simp only [List.map_toArray, List.map_cons, List.map_nil]); first | done | rfl | (simp only [List.length_drop, List.length_take]; rfl)) ?_; (with_reducible refine (bits_Mul64.calls t109 t110 t111 t112 _ A10.out).mono ?_); rintro e w' ⟨rfl, ⟨nd, rfl⟩⟩; refine ⟨_, rfl, ?_⟩) | ((with_reducible refine zat (f := 78) rfl ?_); refine zfb (some 57) rfl rfl #[.int .u64 t108, .int .u64 t112, .int .u64 0] rfl (by (try simp only [List.map_toArray, List.map_cons, List.map_nil]); first | done | rfl | (simp only [List.length_drop, List.length_take]; rfl)) ?_; (with_reducible refine (bits_Add64.calls t108 t112 0 t113 t114 _ A12.out).mono ?_); rintro e w' ⟨rfl, ⟨nd, rfl⟩⟩; refine ⟨_, rfl, ?_⟩) | ((with_reducible refine zat (f := 78) rfl ?_); refine zfb (some 64) rfl rfl #[.int .u64 t107, .int .u64 t111, .int .u64 t114] rfl (by (try simp only [List.map_toArray, List.map_cons, List.map_nil]); first | done | rfl | (simp only [List.length_drop, List.length_take]; rfl)) ?_; (with_reducible refine (bits_Add64.calls t107 t111 t114 t115 t116 _ A13.out).mono ?_); rintro e w' ⟨rfl, ⟨nd, rfl⟩⟩; refine ⟨_, rfl, ?_⟩))
  go_ret3
  exact ⟨by first | rfl | (simp; done) | (simp [*]; done), by repeat (first | exact zaP.refl _ | apply zaP.step)⟩
 ·rw [if_neg c11] at H
  have c11b0 : (((decide (a0 < 0)) != (decide (a1 < 0))) == ((decide (a2 < 0)) != (decide (a3 < 0)))) = false := by simpa using c11
  (try (have c11b1 : decide (((decide (a0 < 0)) != (decide (a1 < 0))) = ((decide (a2 < 0)) != (decide (a3 < 0)))) = false := by simpa using c11))
  (try (have c11b2 : (((decide (a0 < 0)) != (decide (a1 < 0))) == ((decide (a2 < 0)) != (decide (a3 < 0)))) = false := by simpa using c11))
  (try (have c11b3 : ¬ (((decide (a0 < 0)) != (decide (a1 < 0))) = ((decide (a2 < 0)) != (decide (a3 < 0)))) := by simpa using c11))
  (try (have c11b4 : (((!((decide (a0 < 0)) == (decide (a1 < 0))))) == ((!((decide (a2 < 0)) == (decide (a3 < 0)))))) = false := by simpa [bne] using c11))
  clear c11
  have HC14 := Aside0.mk H
  clear H
  go_enter Tryd.func62, Tryd.ntmps62
  go_upto_region 8 with (first | ((with_reducible refine zat (f := 60) rfl ?_); refine za9 (some 27) rfl rfl Tryd.func60 (by kernel_rfl) rfl #[.int .i64 a0] rfl (by (try simp only [List.map_toArray, List.map_cons, List.map_nil]); first | done | rfl | (simp only [List.length_drop, List.length_take]; rfl)) ?_; (with_reducible refine (zaH.calls a0 t105 _ A5.out).mono ?_); rintro e w' ⟨rfl, ⟨nd, rfl⟩⟩; refine ⟨_, rfl, ?_⟩) | ((with_reducible refine zat (f := 60) rfl ?_); refine za9 (some 29) rfl rfl Tryd.func60 (by kernel_rfl) rfl #[.int .i64 a1] rfl (by (try simp only [List.map_toArray, List.map_cons, List.map_nil]); first | done | rfl | (simp only [List.length_drop, List.length_take]; rfl)) ?_; (with_reducible refine (zaH.calls a1 t106 _ A6.out).mono ?_); rintro e w' ⟨rfl, ⟨nd, rfl⟩⟩; refine ⟨_, rfl, ?_⟩) | ((with_reducible refine zat (f := 77) rfl ?_); refine za9 (some 30) rfl rfl Tryd.func77 (by kernel_rfl) rfl #[.int .u64 t105, .int .u64 t106] rfl (by (try simp only [List.map_toArray, List.map_cons, List.map_nil]); first | done | rfl | (simp only [List.length_drop, List.length_take]; rfl)) ?_; (with_reducible refine (bits_Mul64.calls t105 t106 t107 t108 _ A7.out).mono ?_); rintro e w' ⟨rfl, ⟨nd, rfl⟩⟩; refine ⟨_, rfl, ?_⟩) | ((with_reducible refine zat (f := 60) rfl ?_); refine za9 (some 35) rfl rfl Tryd.func60 (by kernel_rfl) rfl #[.int .i64 a2] rfl (by (try simp only [List.map_toArray, List.map_cons, List.map_nil]); first | done | rfl | (simp only [List.length_drop, List.length_take]; rfl)) ?_; (with_reducible refine (zaH.calls a2 t109 _ A8.out).mono ?_); rintro e w' ⟨rfl, ⟨nd, rfl⟩⟩; refine ⟨_, rfl, ?_⟩) | ((with_reducible refine zat (f := 60) rfl ?_); refine za9 (some 37) rfl rfl Tryd.func60 (by kernel_rfl) rfl #[.int .i64 a3] rfl (by (try simp only [List.map_toArray, List.map_cons, List.map_nil]); first | done | rfl | (simp only [List.length_drop, List.length_take]; rfl)) ?_; (with_reducible refine (zaH.calls a3 t110 _ A9.out).mono ?_); rintro e w' ⟨rfl, ⟨nd, rfl⟩⟩; refine ⟨_, rfl, ?_⟩) | ((with_reducible refine zat (f := 77) rfl ?_); refine za9 (some 38) rfl rfl Tryd.func77 (by kernel_rfl) rfl #[.int .u64 t109, .int .u64 t110] rfl (by (try simp only [List.map_toArray, List.map_cons, List.map_nil]); first | done | rfl | (simp only [List.length_drop, List.length_take]; rfl)) ?_; (with_reducible refine (bits_Mul64.calls t109 t110 t111 t112 _ A10.out).mono ?_); rintro e w' ⟨rfl, ⟨nd, rfl⟩⟩; refine ⟨_, rfl, ?_⟩))
  (try simp only [Act.put, List.setIfInBounds_toArray, List.set_cons_zero, List.set_cons_succ])
  go_cut [82] (fun v82 wc => ∃ (kq : Nat) (x82_13 : Bool), v82 = .bool x82_13 ∧ Aside0 (za8.j0 kq t107 t108 t111 t112 ((decide (a0 < 0)) != (decide (a1 < 0))) ((decide (a2 < 0)) != (decide (a3 < 0))) x82_13 = some (r1, r2, r3)) ∧ Aside0 (kq ≤ k) ∧ zaP w wc)
  case first =>
   have H := HC14.out
   clear HC14
   by_cases c15 : t107 < t111
   ·rw [if_pos c15] at H
    have c15b0 : decide (t107 < t111) = true := decide_eq_true c15
    clear c15
    (first | rw [c15b0] | (simp only [zaL, zaN]; rw [c15b0]) | skip)
    have H' := Aside0.mk H
    clear H
    go_wp2
    go_meet
    case rel => exact ⟨_, (true), (by first | rfl | (simp; done) | (simp [*]; done)), H', ⟨by first | omega | exact Nat.le_refl _⟩, by repeat (first | exact zaP.refl _ | apply zaP.step)⟩
   ·rw [if_neg c15] at H
    have c15b0 : decide (t107 < t111) = false := decide_eq_false c15
    clear c15
    (first | rw [c15b0] | (simp only [zaL, zaN]; rw [c15b0]) | skip)
    by_cases c16 : t107 = t111
    ·rw [if_pos c16] at H
     have c16b0 : (t107 == t111) = true := beq_iff_eq.mpr c16
     have c16b1 : (t107 != t111) = false := bne_eq_false_iff_eq.mpr c16
     clear c16
     have H' := Aside0.mk H
     clear H
     go_wp2
     go_meet
     case rel => exact ⟨_, (decide (t108 < t112)), (by first | rfl | (simp; done) | (simp [*]; done)), H', ⟨by first | omega | exact Nat.le_refl _⟩, by repeat (first | exact zaP.refl _ | apply zaP.step)⟩
    ·rw [if_neg c16] at H
     have c16b0 : (t107 == t111) = false := beq_eq_false_iff_ne.mpr c16
     have c16b1 : (t107 != t111) = true := bne_iff_ne.mpr c16
     have H' := Aside0.mk H
     clear H
     go_wp2
     go_meet
     case rel => exact ⟨_, (false), (by first | rfl | (simp; done) | (simp [*]; done)), H', ⟨by first | omega | exact Nat.le_refl _⟩, by repeat (first | exact zaP.refl _ | apply zaP.step)⟩
  case rest =>
   clear HC14
   (try clear c1); (try clear p2); (try clear c6); (try clear c7); (try clear c11); (try clear c11b0); (try clear c11b1); (try clear c11b2); (try clear c15); (try clear c15b0); (try clear c16); (try clear c16b0); (try clear c16b1)
   obtain ⟨kq, x82_13, rfl, HA, HJ13, ⟨mc13, rfl⟩⟩ := hcut
   cases kq with
   | zero => exact absurd HA.out (by simp [za8.j0])
   | succ kj13 =>
    have H := HA.out
    clear HA
    simp only [za8.j0] at H
    have HC17 := Aside0.mk H
    clear H
    go_upto_if 82 with (fail)
    go_cut [11, 12, 13, 14, 15] (fun v11 v12 v13 v14 v15 wc => ∃ (kq : Nat) (x11_16 : Int) (x12_16 : Int) (x13_16 : Int) (x14_16 : Int) (x15_16 : Bool), v11 = .int .u64 x11_16 ∧ v12 = .int .u64 x12_16 ∧ v13 = .int .u64 x13_16 ∧ v14 = .int .u64 x14_16 ∧ v15 = .bool x15_16 ∧ Aside0 (za8.j1 kq x11_16 x12_16 x13_16 x14_16 x15_16 = some (r1, r2, r3)) ∧ Aside0 (kq ≤ kj13) ∧ zaP w wc)
    case first =>
     have H := HC17.out
     clear HC17
     by_cases c18 : x82_13 = true
     ·subst c18
      have H1 : (za8.j1 kj13 t111 t112 t107 t108 ((decide (a2 < 0)) != (decide (a3 < 0)))) = some (r1, r2, r3) := by rw [if_pos rfl] at H; exact H
      clear H
      have H := H1
      clear H1
      have H' := Aside0.mk H
      clear H
      go_wp2
      go_meet
      case rel => exact ⟨_, (t111), (t112), (t107), (t108), (((decide (a2 < 0)) != (decide (a3 < 0)))), (by first | rfl | (simp; done) | (simp [*]; done)), (by first | rfl | (simp; done) | (simp [*]; done)), (by first | rfl | (simp; done) | (simp [*]; done)), (by first | rfl | (simp; done) | (simp [*]; done)), (by first | rfl | (simp; done) | (simp [*]; done)), H', ⟨by have := HJ13.out; first | omega | exact Nat.le_refl _⟩, by repeat (first | exact zaP.refl _ | apply zaP.step)⟩
     ·replace c18 := Bool.eq_false_iff.mpr c18
      subst c18
      have H1 : (za8.j1 kj13 t107 t108 t111 t112 ((decide (a0 < 0)) != (decide (a1 < 0)))) = some (r1, r2, r3) := by rw [if_neg (show ¬ (false = true) by decide)] at H; exact H
      clear H
      have H := H1
      clear H1
      have H' := Aside0.mk H
      clear H
      go_wp2
      go_meet
      case rel => exact ⟨_, (t107), (t108), (t111), (t112), (((decide (a0 < 0)) != (decide (a1 < 0)))), (by first | rfl | (simp; done) | (simp [*]; done)), (by first | rfl | (simp; done) | (simp [*]; done)), (by first | rfl | (simp; done) | (simp [*]; done)), (by first | rfl | (simp; done) | (simp [*]; done)), (by first | rfl | (simp; done) | (simp [*]; done)), H', ⟨by have := HJ13.out; first | omega | exact Nat.le_refl _⟩, by repeat (first | exact zaP.refl _ | apply zaP.step)⟩
    case rest =>
     clear HC17
     (try clear c1); (try clear p2); (try clear c6); (try clear c7); (try clear c11); (try clear c11b0); (try clear c11b1); (try clear c11b2); (try clear c13); (try clear c15); (try clear c15b0); (try clear c16); (try clear c16b0); (try clear c16b1); (try clear c18); (try clear p2)
     obtain ⟨kq, x11_16, x12_16, x13_16, x14_16, x15_16, rfl, rfl, rfl, rfl, rfl, HA, HJ16, ⟨mc16, rfl⟩⟩ := hcut
     cases kq with
     | zero => exact absurd HA.out (by simp [za8.j1])
     | succ kj16 =>
      have H := HA.out
      clear HA
      simp only [za8.j1] at H
      replace H := Option.bind_eq_some_iff.mp H
      obtain ⟨⟨t117, t118⟩, A190, H⟩ := H
      replace H : ((bits_Sub64.f x11_16 x13_16 t118).bind fun bt119 => (some (bt119.1, t117, x15_16))) = some (r1, r2, r3) := H
      have A19 := Aside0.mk A190
      clear A190
      replace H := Option.bind_eq_some_iff.mp H
      obtain ⟨⟨t119, t120⟩, A200, H⟩ := H
      replace H : (some (t119, t117, x15_16)) = some (r1, r2, r3) := H
      have A20 := Aside0.mk A200
      clear A200
      simp only [Option.some.injEq, Prod.mk.injEq] at H
      obtain ⟨rfl, rfl, rfl⟩ := H
      go_wp2_with (first | ((with_reducible refine zat (f := 79) rfl ?_); refine zfb (some 91) rfl rfl #[.int .u64 x12_16, .int .u64 x14_16, .int .u64 0] rfl (by (try simp only [List.map_toArray, List.map_cons, List.map_nil]); first | done | rfl | (simp only [List.length_drop, List.length_take]; rfl)) ?_; (with_reducible refine (bits_Sub64.calls x12_16 x14_16 0 t117 t118 _ A19.out).mono ?_); rintro e w' ⟨rfl, ⟨nd, rfl⟩⟩; refine ⟨_, rfl, ?_⟩) | ((with_reducible refine zat (f := 79) rfl ?_); refine zfb (some 98) rfl rfl #[.int .u64 x11_16, .int .u64 x13_16, .int .u64 t118] rfl (by (try simp only [List.map_toArray, List.map_cons, List.map_nil]); first | done | rfl | (simp only [List.length_drop, List.length_take]; rfl)) ?_; (with_reducible refine (bits_Sub64.calls x11_16 x13_16 t118 t119 t120 _ A20.out).mono ?_); rintro e w' ⟨rfl, ⟨nd, rfl⟩⟩; refine ⟨_, rfl, ?_⟩))
      go_ret3
      exact ⟨by first | rfl | (simp; done) | (simp [*]; done), by repeat (first | exact zaP.refl _ | apply zaP.step)⟩
end Go.Proofs.YtijhnmbegceonaaDoor.PRat
namespace Go.Proofs.YtijhnmbegceonaaDoor.PRat
open Go.RowKit Go.Proofs.YtijhnmbegceonaaDoorW.PrintWords Go.Proofs.YtijhnmbegceonaaDoorW.PrintLast Go.Proofs.YtijhnmbegceonaaDoorW.PrintMore
attribute [local go_sem] zbr zbp zbz zby zbh zbg zbq zbo
set_option linter.unusedVariables false
set_option linter.unusedSimpArgs false
mutual
def bits_Len64.j0 : Nat → Int → Int → Option (Int)
 | 0, _, _ => none
 | k + 1, x0, x2 => if x0 ≥ 65536 then (bits_Len64.j1 k (x0 / 65536) (wrap64 (x2 + 16))) else (bits_Len64.j1 k x0 x2)
def bits_Len64.j1 : Nat → Int → Int → Option (Int)
 | 0, _, _ => none
 | k + 1, x0, x2 => if x0 ≥ 256 then (if 0 ≤ ((x0 / 256) % 256) then (if ((x0 / 256) % 256) < 256 then (some (wrap64 ((wrap64 (x2 + 8)) + (wrap64 (bt (⟨#[0, 1, 2, 2, 3, 3, 3, 3, 4, 4, 4, 4, 4, 4, 4, 4, 5, 5, 5, 5, 5, 5, 5, 5, 5, 5, 5, 5, 5, 5, 5, 5, 6, 6, 6, 6, 6, 6, 6, 6, 6, 6, 6, 6, 6, 6, 6, 6, 6, 6, 6, 6, 6, 6, 6, 6, 6, 6, 6, 6, 6, 6, 6, 6, 7, 7, 7, 7, 7, 7, 7, 7, 7, 7, 7, 7, 7, 7, 7, 7, 7, 7, 7, 7, 7, 7, 7, 7, 7, 7, 7, 7, 7, 7, 7, 7, 7, 7, 7, 7, 7, 7, 7, 7, 7, 7, 7, 7, 7, 7, 7, 7, 7, 7, 7, 7, 7, 7, 7, 7, 7, 7, 7, 7, 7, 7, 7, 7, 8, 8, 8, 8, 8, 8, 8, 8, 8, 8, 8, 8, 8, 8, 8, 8, 8, 8, 8, 8, 8, 8, 8, 8, 8, 8, 8, 8, 8, 8, 8, 8, 8, 8, 8, 8, 8, 8, 8, 8, 8, 8, 8, 8, 8, 8, 8, 8, 8, 8, 8, 8, 8, 8, 8, 8, 8, 8, 8, 8, 8, 8, 8, 8, 8, 8, 8, 8, 8, 8, 8, 8, 8, 8, 8, 8, 8, 8, 8, 8, 8, 8, 8, 8, 8, 8, 8, 8, 8, 8, 8, 8, 8, 8, 8, 8, 8, 8, 8, 8, 8, 8, 8, 8, 8, 8, 8, 8, 8, 8, 8, 8, 8, 8, 8, 8, 8, 8, 8, 8, 8, 8, 8, 8, 8, 8, 8, 8]⟩ : ByteArray) ((x0 / 256) % 256)))))) else (none)) else (none)) else (if 0 ≤ ((x0) % 256) then (if ((x0) % 256) < 256 then (some (wrap64 (x2 + (wrap64 (bt (⟨#[0, 1, 2, 2, 3, 3, 3, 3, 4, 4, 4, 4, 4, 4, 4, 4, 5, 5, 5, 5, 5, 5, 5, 5, 5, 5, 5, 5, 5, 5, 5, 5, 6, 6, 6, 6, 6, 6, 6, 6, 6, 6, 6, 6, 6, 6, 6, 6, 6, 6, 6, 6, 6, 6, 6, 6, 6, 6, 6, 6, 6, 6, 6, 6, 7, 7, 7, 7, 7, 7, 7, 7, 7, 7, 7, 7, 7, 7, 7, 7, 7, 7, 7, 7, 7, 7, 7, 7, 7, 7, 7, 7, 7, 7, 7, 7, 7, 7, 7, 7, 7, 7, 7, 7, 7, 7, 7, 7, 7, 7, 7, 7, 7, 7, 7, 7, 7, 7, 7, 7, 7, 7, 7, 7, 7, 7, 7, 7, 8, 8, 8, 8, 8, 8, 8, 8, 8, 8, 8, 8, 8, 8, 8, 8, 8, 8, 8, 8, 8, 8, 8, 8, 8, 8, 8, 8, 8, 8, 8, 8, 8, 8, 8, 8, 8, 8, 8, 8, 8, 8, 8, 8, 8, 8, 8, 8, 8, 8, 8, 8, 8, 8, 8, 8, 8, 8, 8, 8, 8, 8, 8, 8, 8, 8, 8, 8, 8, 8, 8, 8, 8, 8, 8, 8, 8, 8, 8, 8, 8, 8, 8, 8, 8, 8, 8, 8, 8, 8, 8, 8, 8, 8, 8, 8, 8, 8, 8, 8, 8, 8, 8, 8, 8, 8, 8, 8, 8, 8, 8, 8, 8, 8, 8, 8, 8, 8, 8, 8, 8, 8, 8, 8, 8, 8, 8, 8]⟩ : ByteArray) ((x0) % 256)))))) else (none)) else (none))
end
def bits_Len64.f (k : Nat) (a0 : Int) : Option (Int) := if a0 ≥ 4294967296 then (bits_Len64.j0 k (a0 / 4294967296) 32) else (bits_Len64.j0 k a0 0)
set_option maxHeartbeats 8000000 in
set_option maxRecDepth 100000 in
theorem bits_Len64.calls (k : Nat) (a0 : Int) (r : Int) (w : World) (h : bits_Len64.f k a0 = some r) :
  Calls Tryd.prog 88 #[.int .u64 a0] w fun e w' => e = .returned (.int .i64 r) ∧ zaP w w' := by
 have H : (if a0 ≥ 4294967296 then (bits_Len64.j0 k (a0 / 4294967296) 32) else (bits_Len64.j0 k a0 0)) = some r := h
 clear h
 have HC2 := Aside0.mk H
 clear H
 go_enter Tryd.func88, Tryd.ntmps88
 go_upto_if 4 with (fail)
 go_cut [0, 2] (fun v0 v2 wc => ∃ (kq : Nat) (x0_1 : Int) (x2_1 : Int), v0 = .int .u64 x0_1 ∧ v2 = .int .i64 x2_1 ∧ Aside0 (bits_Len64.j0 kq x0_1 x2_1 = some r) ∧ Aside0 (kq ≤ k) ∧ zaP w wc)
 case first =>
  have H := HC2.out
  clear HC2
  by_cases c3 : a0 ≥ 4294967296
  ·rw [if_pos c3] at H
   have c3b0 : decide (4294967296 ≤ a0) = true := decide_eq_true c3
   clear c3
   (first | rw [c3b0] | (simp only [zaL, zaN]; rw [c3b0]) | skip)
   have H' := Aside0.mk H
   clear H
   go_wp2
   go_meet
   case rel => exact ⟨_, (a0 / 4294967296), (32), (by first | rfl | (simp; done) | (simp [*]; done)), (by first | rfl | (simp; done) | (simp [*]; done)), H', ⟨by first | omega | exact Nat.le_refl _⟩, by repeat (first | exact zaP.refl _ | apply zaP.step)⟩
  ·rw [if_neg c3] at H
   have c3b0 : decide (4294967296 ≤ a0) = false := decide_eq_false c3
   clear c3
   (first | rw [c3b0] | (simp only [zaL, zaN]; rw [c3b0]) | skip)
   have H' := Aside0.mk H
   clear H
   go_wp2
   go_meet
   case rel => exact ⟨_, (a0), (0), (by first | rfl | (simp; done) | (simp [*]; done)), (by first | rfl | (simp; done) | (simp [*]; done)), H', ⟨by first | omega | exact Nat.le_refl _⟩, by repeat (first | exact zaP.refl _ | apply zaP.step)⟩
 case rest =>
  clear HC2
  (try clear p2); (try clear c3); (try clear c3b0)
  obtain ⟨kq, x0_1, x2_1, rfl, rfl, HA, HJ1, ⟨mc1, rfl⟩⟩ := hcut
  cases kq with
  | zero => exact absurd HA.out (by simp [bits_Len64.j0])
  | succ kj1 =>
   have H := HA.out
   clear HA
   simp only [bits_Len64.j0] at H
   have HC4 := Aside0.mk H
   clear H
   go_upto_if 8 with (fail)
   go_cut [0, 2] (fun v0 v2 wc => ∃ (kq : Nat) (x0_3 : Int) (x2_3 : Int), v0 = .int .u64 x0_3 ∧ v2 = .int .i64 x2_3 ∧ Aside0 (bits_Len64.j1 kq x0_3 x2_3 = some r) ∧ Aside0 (kq ≤ kj1) ∧ zaP w wc)
   case first =>
    have H := HC4.out
    clear HC4
    by_cases c5 : x0_1 ≥ 65536
    ·rw [if_pos c5] at H
     have c5b0 : decide (65536 ≤ x0_1) = true := decide_eq_true c5
     clear c5
     (first | rw [c5b0] | (simp only [zaL, zaN]; rw [c5b0]) | skip)
     have H' := Aside0.mk H
     clear H
     go_wp2
     go_meet
     case rel => exact ⟨_, (x0_1 / 65536), (wrap64 (x2_1 + 16)), (by first | rfl | (simp; done) | (simp [*]; done)), (by first | rfl | (simp; done) | (simp [*]; done)), H', ⟨by have := HJ1.out; first | omega | exact Nat.le_refl _⟩, by repeat (first | exact zaP.refl _ | apply zaP.step)⟩
    ·rw [if_neg c5] at H
     have c5b0 : decide (65536 ≤ x0_1) = false := decide_eq_false c5
     clear c5
     (first | rw [c5b0] | (simp only [zaL, zaN]; rw [c5b0]) | skip)
     have H' := Aside0.mk H
     clear H
     go_wp2
     go_meet
     case rel => exact ⟨_, (x0_1), (x2_1), (by first | rfl | (simp; done) | (simp [*]; done)), (by first | rfl | (simp; done) | (simp [*]; done)), H', ⟨by have := HJ1.out; first | omega | exact Nat.le_refl _⟩, by repeat (first | exact zaP.refl _ | apply zaP.step)⟩
   case rest =>
    clear HC4
    (try clear c1); (try clear p2); (try clear c3); (try clear c3b0); (try clear c5); (try clear c5b0); (try clear p2)
    obtain ⟨kq, x0_3, x2_3, rfl, rfl, HA, HJ3, ⟨mc3, rfl⟩⟩ := hcut
    cases kq with
    | zero => exact absurd HA.out (by simp [bits_Len64.j1])
    | succ kj3 =>
     have H := HA.out
     clear HA
     simp only [bits_Len64.j1] at H
     by_cases c6 : x0_3 ≥ 256
     ·rw [if_pos c6] at H
      have c6b0 : decide (256 ≤ x0_3) = true := decide_eq_true c6
      clear c6
      obtain ⟨ji7, hji7⟩ : ∃ j_ : Int, ((x0_3 / 256) % 256) = j_ := ⟨_, rfl⟩
      replace H : (if 0 ≤ (ji7) then (if (ji7) < 256 then (some (wrap64 ((wrap64 (x2_3 + 8)) + (wrap64 (bt (⟨#[0, 1, 2, 2, 3, 3, 3, 3, 4, 4, 4, 4, 4, 4, 4, 4, 5, 5, 5, 5, 5, 5, 5, 5, 5, 5, 5, 5, 5, 5, 5, 5, 6, 6, 6, 6, 6, 6, 6, 6, 6, 6, 6, 6, 6, 6, 6, 6, 6, 6, 6, 6, 6, 6, 6, 6, 6, 6, 6, 6, 6, 6, 6, 6, 7, 7, 7, 7, 7, 7, 7, 7, 7, 7, 7, 7, 7, 7, 7, 7, 7, 7, 7, 7, 7, 7, 7, 7, 7, 7, 7, 7, 7, 7, 7, 7, 7, 7, 7, 7, 7, 7, 7, 7, 7, 7, 7, 7, 7, 7, 7, 7, 7, 7, 7, 7, 7, 7, 7, 7, 7, 7, 7, 7, 7, 7, 7, 7, 8, 8, 8, 8, 8, 8, 8, 8, 8, 8, 8, 8, 8, 8, 8, 8, 8, 8, 8, 8, 8, 8, 8, 8, 8, 8, 8, 8, 8, 8, 8, 8, 8, 8, 8, 8, 8, 8, 8, 8, 8, 8, 8, 8, 8, 8, 8, 8, 8, 8, 8, 8, 8, 8, 8, 8, 8, 8, 8, 8, 8, 8, 8, 8, 8, 8, 8, 8, 8, 8, 8, 8, 8, 8, 8, 8, 8, 8, 8, 8, 8, 8, 8, 8, 8, 8, 8, 8, 8, 8, 8, 8, 8, 8, 8, 8, 8, 8, 8, 8, 8, 8, 8, 8, 8, 8, 8, 8, 8, 8, 8, 8, 8, 8, 8, 8, 8, 8, 8, 8, 8, 8, 8, 8, 8, 8, 8, 8]⟩ : ByteArray) (ji7)))))) else (none)) else (none)) = some r := by first | (rw [hji7] at H; exact H) | (simp only [hji7] at H ⊢; exact H)
      by_cases c8 : 0 ≤ (ji7)
      ·rw [if_pos c8] at H
       have c8b0 : decide (0 ≤ (ji7)) = true := decide_eq_true c8
       clear c8
       by_cases c9 : (ji7) < 256
       ·rw [if_pos c9] at H
        have c9b0 : decide ((ji7) < 256) = true := decide_eq_true c9
        clear c9
        obtain rfl := Option.some.inj H
        have p10 : 0 ≤ ((ji7) : Int) := of_decide_eq_true (by first | (with_reducible assumption) | assumption)
        have q10 : (ji7) < (256 : Int) := of_decide_eq_true (by first | (with_reducible assumption) | assumption)
        have hx10 := bt_at (⟨#[0, 1, 2, 2, 3, 3, 3, 3, 4, 4, 4, 4, 4, 4, 4, 4, 5, 5, 5, 5, 5, 5, 5, 5, 5, 5, 5, 5, 5, 5, 5, 5, 6, 6, 6, 6, 6, 6, 6, 6, 6, 6, 6, 6, 6, 6, 6, 6, 6, 6, 6, 6, 6, 6, 6, 6, 6, 6, 6, 6, 6, 6, 6, 6, 7, 7, 7, 7, 7, 7, 7, 7, 7, 7, 7, 7, 7, 7, 7, 7, 7, 7, 7, 7, 7, 7, 7, 7, 7, 7, 7, 7, 7, 7, 7, 7, 7, 7, 7, 7, 7, 7, 7, 7, 7, 7, 7, 7, 7, 7, 7, 7, 7, 7, 7, 7, 7, 7, 7, 7, 7, 7, 7, 7, 7, 7, 7, 7, 8, 8, 8, 8, 8, 8, 8, 8, 8, 8, 8, 8, 8, 8, 8, 8, 8, 8, 8, 8, 8, 8, 8, 8, 8, 8, 8, 8, 8, 8, 8, 8, 8, 8, 8, 8, 8, 8, 8, 8, 8, 8, 8, 8, 8, 8, 8, 8, 8, 8, 8, 8, 8, 8, 8, 8, 8, 8, 8, 8, 8, 8, 8, 8, 8, 8, 8, 8, 8, 8, 8, 8, 8, 8, 8, 8, 8, 8, 8, 8, 8, 8, 8, 8, 8, 8, 8, 8, 8, 8, 8, 8, 8, 8, 8, 8, 8, 8, 8, 8, 8, 8, 8, 8, 8, 8, 8, 8, 8, 8, 8, 8, 8, 8, 8, 8, 8, 8, 8, 8, 8, 8, 8, 8, 8, 8, 8, 8]⟩ : ByteArray) (ji7)
        replace p10 := eq_true p10
        replace q10 := eq_true q10
        go_wp2
        go_ret
        exact ⟨by first | rfl | (simp; done) | (simp only [← hji7] <;> (first | rfl | simp)) | (simp [*]; done), by repeat (first | exact zaP.refl _ | apply zaP.step)⟩
       ·rw [if_neg c9] at H
        exact absurd H (by simp)
      ·rw [if_neg c8] at H
       exact absurd H (by simp)
     ·rw [if_neg c6] at H
      have c6b0 : decide (256 ≤ x0_3) = false := decide_eq_false c6
      clear c6
      obtain ⟨ji11, hji11⟩ : ∃ j_ : Int, ((x0_3) % 256) = j_ := ⟨_, rfl⟩
      replace H : (if 0 ≤ (ji11) then (if (ji11) < 256 then (some (wrap64 (x2_3 + (wrap64 (bt (⟨#[0, 1, 2, 2, 3, 3, 3, 3, 4, 4, 4, 4, 4, 4, 4, 4, 5, 5, 5, 5, 5, 5, 5, 5, 5, 5, 5, 5, 5, 5, 5, 5, 6, 6, 6, 6, 6, 6, 6, 6, 6, 6, 6, 6, 6, 6, 6, 6, 6, 6, 6, 6, 6, 6, 6, 6, 6, 6, 6, 6, 6, 6, 6, 6, 7, 7, 7, 7, 7, 7, 7, 7, 7, 7, 7, 7, 7, 7, 7, 7, 7, 7, 7, 7, 7, 7, 7, 7, 7, 7, 7, 7, 7, 7, 7, 7, 7, 7, 7, 7, 7, 7, 7, 7, 7, 7, 7, 7, 7, 7, 7, 7, 7, 7, 7, 7, 7, 7, 7, 7, 7, 7, 7, 7, 7, 7, 7, 7, 8, 8, 8, 8, 8, 8, 8, 8, 8, 8, 8, 8, 8, 8, 8, 8, 8, 8, 8, 8, 8, 8, 8, 8, 8, 8, 8, 8, 8, 8, 8, 8, 8, 8, 8, 8, 8, 8, 8, 8, 8, 8, 8, 8, 8, 8, 8, 8, 8, 8, 8, 8, 8, 8, 8, 8, 8, 8, 8, 8, 8, 8, 8, 8, 8, 8, 8, 8, 8, 8, 8, 8, 8, 8, 8, 8, 8, 8, 8, 8, 8, 8, 8, 8, 8, 8, 8, 8, 8, 8, 8, 8, 8, 8, 8, 8, 8, 8, 8, 8, 8, 8, 8, 8, 8, 8, 8, 8, 8, 8, 8, 8, 8, 8, 8, 8, 8, 8, 8, 8, 8, 8, 8, 8, 8, 8, 8, 8]⟩ : ByteArray) (ji11)))))) else (none)) else (none)) = some r := by first | (rw [hji11] at H; exact H) | (simp only [hji11] at H ⊢; exact H)
      by_cases c12 : 0 ≤ (ji11)
      ·rw [if_pos c12] at H
       have c12b0 : decide (0 ≤ (ji11)) = true := decide_eq_true c12
       clear c12
       by_cases c13 : (ji11) < 256
       ·rw [if_pos c13] at H
        have c13b0 : decide ((ji11) < 256) = true := decide_eq_true c13
        clear c13
        obtain rfl := Option.some.inj H
        have p14 : 0 ≤ ((ji11) : Int) := of_decide_eq_true (by first | (with_reducible assumption) | assumption)
        have q14 : (ji11) < (256 : Int) := of_decide_eq_true (by first | (with_reducible assumption) | assumption)
        have hx14 := bt_at (⟨#[0, 1, 2, 2, 3, 3, 3, 3, 4, 4, 4, 4, 4, 4, 4, 4, 5, 5, 5, 5, 5, 5, 5, 5, 5, 5, 5, 5, 5, 5, 5, 5, 6, 6, 6, 6, 6, 6, 6, 6, 6, 6, 6, 6, 6, 6, 6, 6, 6, 6, 6, 6, 6, 6, 6, 6, 6, 6, 6, 6, 6, 6, 6, 6, 7, 7, 7, 7, 7, 7, 7, 7, 7, 7, 7, 7, 7, 7, 7, 7, 7, 7, 7, 7, 7, 7, 7, 7, 7, 7, 7, 7, 7, 7, 7, 7, 7, 7, 7, 7, 7, 7, 7, 7, 7, 7, 7, 7, 7, 7, 7, 7, 7, 7, 7, 7, 7, 7, 7, 7, 7, 7, 7, 7, 7, 7, 7, 7, 8, 8, 8, 8, 8, 8, 8, 8, 8, 8, 8, 8, 8, 8, 8, 8, 8, 8, 8, 8, 8, 8, 8, 8, 8, 8, 8, 8, 8, 8, 8, 8, 8, 8, 8, 8, 8, 8, 8, 8, 8, 8, 8, 8, 8, 8, 8, 8, 8, 8, 8, 8, 8, 8, 8, 8, 8, 8, 8, 8, 8, 8, 8, 8, 8, 8, 8, 8, 8, 8, 8, 8, 8, 8, 8, 8, 8, 8, 8, 8, 8, 8, 8, 8, 8, 8, 8, 8, 8, 8, 8, 8, 8, 8, 8, 8, 8, 8, 8, 8, 8, 8, 8, 8, 8, 8, 8, 8, 8, 8, 8, 8, 8, 8, 8, 8, 8, 8, 8, 8, 8, 8, 8, 8, 8, 8, 8, 8]⟩ : ByteArray) (ji11)
        replace p14 := eq_true p14
        replace q14 := eq_true q14
        go_wp2
        go_ret
        exact ⟨by first | rfl | (simp; done) | (simp only [← hji11] <;> (first | rfl | simp)) | (simp [*]; done), by repeat (first | exact zaP.refl _ | apply zaP.step)⟩
       ·rw [if_neg c13] at H
        exact absurd H (by simp)
      ·rw [if_neg c12] at H
       exact absurd H (by simp)
def bits_LeadingZeros64.f (k : Nat) (a0 : Int) : Option (Int) := (bits_Len64.f k a0).bind fun t121 => (some (wrap64 (64 - t121)))
set_option maxHeartbeats 8000000 in
set_option maxRecDepth 100000 in
theorem bits_LeadingZeros64.calls (k : Nat) (a0 : Int) (r : Int) (w : World) (h : bits_LeadingZeros64.f k a0 = some r) :
  Calls Tryd.prog 80 #[.int .u64 a0] w fun e w' => e = .returned (.int .i64 r) ∧ zaP w w' := by
 have H : ((bits_Len64.f k a0).bind fun t121 => (some (wrap64 (64 - t121)))) = some r := h
 clear h
 replace H := Option.bind_eq_some_iff.mp H
 obtain ⟨t121, A20, H⟩ := H
 replace H : (some (wrap64 (64 - t121))) = some r := H
 have A2 := Aside0.mk A20
 clear A20
 obtain rfl := Option.some.inj H
 go_enter Tryd.func80, Tryd.ntmps80
 go_wp2_with (first | ((with_reducible refine zat (f := 88) rfl ?_); refine za9 (some 4) rfl rfl Tryd.func88 (by kernel_rfl) rfl #[.int .u64 a0] rfl (by (try simp only [List.map_toArray, List.map_cons, List.map_nil]); first | done | rfl | (simp only [List.length_drop, List.length_take]; rfl)) ?_; (with_reducible refine (bits_Len64.calls k a0 t121 _ A2.out).mono ?_); rintro e w' ⟨rfl, ⟨nd, rfl⟩⟩; refine ⟨_, rfl, ?_⟩))
 go_ret
 exact ⟨by first | rfl | (simp; done) | (simp [*]; done), by repeat (first | exact zaP.refl _ | apply zaP.step)⟩
end Go.Proofs.YtijhnmbegceonaaDoor.PRat
namespace Go.Proofs.YtijhnmbegceonaaDoor.PRat
open Go.RowKit Go.Proofs.YtijhnmbegceonaaDoorW.PrintWords Go.Proofs.YtijhnmbegceonaaDoorW.PrintLast Go.Proofs.YtijhnmbegceonaaDoorW.PrintMore
attribute [local go_sem] zbr zbp zbz zby zbh zbg zbq zbo
set_option linter.unusedVariables false
set_option linter.unusedSimpArgs false
mutual
def zaB.j2 : Nat → Int → Int → Int → Int → Int → Int → Int → Int → Option (Int × Int)
 | 0, _, _, _, _, _, _, _, _ => none
 | k + 1, x2, x8, x9, x10, x11, x13, x14, x15 => if x9 = 0 then (none) else (zaB.l1 k x2 x8 x9 x10 x14 x15 (IntKind.u64.wrap ((IntKind.u64.wrap ((IntKind.u64.wrap ((IntKind.u64.wrap (x11 * 4294967296)) + x13)) - (IntKind.u64.wrap (x15 * x2)))) - (IntKind.u64.wrap ((IntKind.u64.wrap (Int.tdiv (IntKind.u64.wrap ((IntKind.u64.wrap ((IntKind.u64.wrap (x11 * 4294967296)) + x13)) - (IntKind.u64.wrap (x15 * x2)))) x9)) * x9)))) (IntKind.u64.wrap ((IntKind.u64.wrap ((IntKind.u64.wrap (x11 * 4294967296)) + x13)) - (IntKind.u64.wrap (x15 * x2)))) (IntKind.u64.wrap (Int.tdiv (IntKind.u64.wrap ((IntKind.u64.wrap ((IntKind.u64.wrap (x11 * 4294967296)) + x13)) - (IntKind.u64.wrap (x15 * x2)))) x9)))
def zaB.l1 : Nat → Int → Int → Int → Int → Int → Int → Int → Int → Int → Option (Int × Int)
 | 0, _, _, _, _, _, _, _, _, _ => none
 | k + 1, x2, x8, x9, x10, x14, x15, x16, x17, x18 => if x18 ≥ 4294967296 then (zaB.j4 k x2 x8 x9 x10 x14 x15 x16 x17 x18 true) else (zaB.j4 k x2 x8 x9 x10 x14 x15 x16 x17 x18 (decide ((IntKind.u64.wrap (x18 * x10)) > (IntKind.u64.wrap ((IntKind.u64.wrap (4294967296 * x16)) + x14)))))
def zaB.j4 : Nat → Int → Int → Int → Int → Int → Int → Int → Int → Int → Bool → Option (Int × Int)
 | 0, _, _, _, _, _, _, _, _, _, _ => none
 | k + 1, x2, x8, x9, x10, x14, x15, x16, x17, x18, x113 => if x113 = true then (if (IntKind.u64.wrap (x16 + x9)) ≥ 4294967296 then (if 0 ≤ x8 then (some (IntKind.u64.wrap ((IntKind.u64.wrap (x15 * 4294967296)) + (IntKind.u64.wrap (x18 - 1))), shr .u64 (IntKind.u64.wrap ((IntKind.u64.wrap ((IntKind.u64.wrap (x17 * 4294967296)) + x14)) - (IntKind.u64.wrap ((IntKind.u64.wrap (x18 - 1)) * x2)))) x8)) else (none)) else (zaB.l1 k x2 x8 x9 x10 x14 x15 (IntKind.u64.wrap (x16 + x9)) x17 (IntKind.u64.wrap (x18 - 1)))) else (if 0 ≤ x8 then (some (IntKind.u64.wrap ((IntKind.u64.wrap (x15 * 4294967296)) + x18), shr .u64 (IntKind.u64.wrap ((IntKind.u64.wrap ((IntKind.u64.wrap (x17 * 4294967296)) + x14)) - (IntKind.u64.wrap (x18 * x2)))) x8)) else (none))
def zaB.l0 : Nat → Int → Int → Int → Int → Int → Int → Int → Int → Int → Option (Int × Int)
 | 0, _, _, _, _, _, _, _, _, _ => none
 | k + 1, x2, x8, x9, x10, x11, x13, x14, x15, x16 => if x15 ≥ 4294967296 then (zaB.j1 k x2 x8 x9 x10 x11 x13 x14 x15 x16 true) else (zaB.j1 k x2 x8 x9 x10 x11 x13 x14 x15 x16 (decide ((IntKind.u64.wrap (x15 * x10)) > (IntKind.u64.wrap ((IntKind.u64.wrap (4294967296 * x16)) + x13)))))
def zaB.j1 : Nat → Int → Int → Int → Int → Int → Int → Int → Int → Int → Bool → Option (Int × Int)
 | 0, _, _, _, _, _, _, _, _, _, _ => none
 | k + 1, x2, x8, x9, x10, x11, x13, x14, x15, x16, x78 => if x78 = true then (if (IntKind.u64.wrap (x16 + x9)) ≥ 4294967296 then (zaB.j2 k x2 x8 x9 x10 x11 x13 x14 (IntKind.u64.wrap (x15 - 1))) else (zaB.l0 k x2 x8 x9 x10 x11 x13 x14 (IntKind.u64.wrap (x15 - 1)) (IntKind.u64.wrap (x16 + x9)))) else (zaB.j2 k x2 x8 x9 x10 x11 x13 x14 x15)
end
def zaB.f (k : Nat) (a0 : Int) (a1 : Int) (a2 : Int) : Option (Int × Int) := if a2 = 0 then (none) else (if a2 ≤ a0 then (none) else (if a0 = 0 then (some (IntKind.u64.wrap (Int.tdiv a1 a2), Int.tmod a1 a2)) else ((bits_LeadingZeros64.f k a2).bind fun t122 => (if 0 ≤ (IntKind.u64.wrap (t122)) then (if 0 ≤ (IntKind.u64.wrap (64 - (IntKind.u64.wrap (t122)))) then (if ((shl .u64 a2 (IntKind.u64.wrap (t122))) / 4294967296) = 0 then (none) else (zaB.l0 k (shl .u64 a2 (IntKind.u64.wrap (t122))) (IntKind.u64.wrap (t122)) ((shl .u64 a2 (IntKind.u64.wrap (t122))) / 4294967296) (Go.bits .and .u64 (shl .u64 a2 (IntKind.u64.wrap (t122))) 4294967295) (Go.bits .or .u64 (shl .u64 a0 (IntKind.u64.wrap (t122))) (shr .u64 a1 (IntKind.u64.wrap (64 - (IntKind.u64.wrap (t122)))))) ((shl .u64 a1 (IntKind.u64.wrap (t122))) / 4294967296) (Go.bits .and .u64 (shl .u64 a1 (IntKind.u64.wrap (t122))) 4294967295) (IntKind.u64.wrap (Int.tdiv (Go.bits .or .u64 (shl .u64 a0 (IntKind.u64.wrap (t122))) (shr .u64 a1 (IntKind.u64.wrap (64 - (IntKind.u64.wrap (t122)))))) ((shl .u64 a2 (IntKind.u64.wrap (t122))) / 4294967296))) (IntKind.u64.wrap ((Go.bits .or .u64 (shl .u64 a0 (IntKind.u64.wrap (t122))) (shr .u64 a1 (IntKind.u64.wrap (64 - (IntKind.u64.wrap (t122)))))) - (IntKind.u64.wrap ((IntKind.u64.wrap (Int.tdiv (Go.bits .or .u64 (shl .u64 a0 (IntKind.u64.wrap (t122))) (shr .u64 a1 (IntKind.u64.wrap (64 - (IntKind.u64.wrap (t122)))))) ((shl .u64 a2 (IntKind.u64.wrap (t122))) / 4294967296))) * ((shl .u64 a2 (IntKind.u64.wrap (t122))) / 4294967296))))))) else (none)) else (none)))))
set_option maxHeartbeats 8000000 in
set_option maxRecDepth 100000 in
theorem zaB.calls (k : Nat) (a0 : Int) (a1 : Int) (a2 : Int) (r1 : Int) (r2 : Int) (w : World) (h : zaB.f k a0 a1 a2 = some (r1, r2)) :
  Calls Tryd.prog 64 #[.int .u64 a0, .int .u64 a1, .int .u64 a2] w fun e w' => e = .returned (.tuple #[.int .u64 r1, .int .u64 r2]) ∧ zaP w w' := by
 have H : (if a2 = 0 then (none) else (if a2 ≤ a0 then (none) else (if a0 = 0 then (some (IntKind.u64.wrap (Int.tdiv a1 a2), Int.tmod a1 a2)) else ((bits_LeadingZeros64.f k a2).bind fun t122 => (if 0 ≤ (IntKind.u64.wrap (t122)) then (if 0 ≤ (IntKind.u64.wrap (64 - (IntKind.u64.wrap (t122)))) then (if ((shl .u64 a2 (IntKind.u64.wrap (t122))) / 4294967296) = 0 then (none) else (zaB.l0 k (shl .u64 a2 (IntKind.u64.wrap (t122))) (IntKind.u64.wrap (t122)) ((shl .u64 a2 (IntKind.u64.wrap (t122))) / 4294967296) (Go.bits .and .u64 (shl .u64 a2 (IntKind.u64.wrap (t122))) 4294967295) (Go.bits .or .u64 (shl .u64 a0 (IntKind.u64.wrap (t122))) (shr .u64 a1 (IntKind.u64.wrap (64 - (IntKind.u64.wrap (t122)))))) ((shl .u64 a1 (IntKind.u64.wrap (t122))) / 4294967296) (Go.bits .and .u64 (shl .u64 a1 (IntKind.u64.wrap (t122))) 4294967295) (IntKind.u64.wrap (Int.tdiv (Go.bits .or .u64 (shl .u64 a0 (IntKind.u64.wrap (t122))) (shr .u64 a1 (IntKind.u64.wrap (64 - (IntKind.u64.wrap (t122)))))) ((shl .u64 a2 (IntKind.u64.wrap (t122))) / 4294967296))) (IntKind.u64.wrap ((Go.bits .or .u64 (shl .u64 a0 (IntKind.u64.wrap (t122))) (shr .u64 a1 (IntKind.u64.wrap (64 - (IntKind.u64.wrap (t122)))))) - (IntKind.u64.wrap ((IntKind.u64.wrap (Int.tdiv (Go.bits .or .u64 (shl .u64 a0 (IntKind.u64.wrap (t122))) (shr .u64 a1 (IntKind.u64.wrap (64 - (IntKind.u64.wrap (t122)))))) ((shl .u64 a2 (IntKind.u64.wrap (t122))) / 4294967296))) * ((shl .u64 a2 (IntKind.u64.wrap (t122))) / 4294967296))))))) else (none)) else (none)))))) = some (r1, r2) := h
 clear h
 by_cases c4 : a2 = 0
 ·rw [if_pos c4] at H
  exact absurd H (by simp)
 ·rw [if_neg c4] at H
  have c4b0 : (a2 == 0) = false := beq_eq_false_iff_ne.mpr c4
  have c4b1 : (a2 != 0) = true := bne_iff_ne.mpr c4
  by_cases c5 : a2 ≤ a0
  ·rw [if_pos c5] at H
   exact absurd H (by simp)
  ·rw [if_neg c5] at H
   have c5b0 : decide (a2 ≤ a0) = false := decide_eq_false c5
   clear c5
   by_cases c6 : a0 = 0
   ·rw [if_pos c6] at H
    have c6b0 : (a0 == 0) = true := beq_iff_eq.mpr c6
    have c6b1 : (a0 != 0) = false := bne_eq_false_iff_eq.mpr c6
    clear c6
    simp only [Option.some.injEq, Prod.mk.injEq] at H
    obtain ⟨rfl, rfl⟩ := H
    go_enter Tryd.func64, Tryd.ntmps64
    go_wp2
    repeat (go_quiet (fail); try go_wp2)
    go_ret2
    exact ⟨by first | rfl | (simp; done) | (simp [*]; done), by repeat (first | exact zaP.refl _ | apply zaP.step)⟩
   ·rw [if_neg c6] at H
    have c6b0 : (a0 == 0) = false := beq_eq_false_iff_ne.mpr c6
    have c6b1 : (a0 != 0) = true := bne_iff_ne.mpr c6
    replace H := Option.bind_eq_some_iff.mp H
    obtain ⟨t122, A70, H⟩ := H
    replace H : (if 0 ≤ (IntKind.u64.wrap (t122)) then (if 0 ≤ (IntKind.u64.wrap (64 - (IntKind.u64.wrap (t122)))) then (if ((shl .u64 a2 (IntKind.u64.wrap (t122))) / 4294967296) = 0 then (none) else (zaB.l0 k (shl .u64 a2 (IntKind.u64.wrap (t122))) (IntKind.u64.wrap (t122)) ((shl .u64 a2 (IntKind.u64.wrap (t122))) / 4294967296) (Go.bits .and .u64 (shl .u64 a2 (IntKind.u64.wrap (t122))) 4294967295) (Go.bits .or .u64 (shl .u64 a0 (IntKind.u64.wrap (t122))) (shr .u64 a1 (IntKind.u64.wrap (64 - (IntKind.u64.wrap (t122)))))) ((shl .u64 a1 (IntKind.u64.wrap (t122))) / 4294967296) (Go.bits .and .u64 (shl .u64 a1 (IntKind.u64.wrap (t122))) 4294967295) (IntKind.u64.wrap (Int.tdiv (Go.bits .or .u64 (shl .u64 a0 (IntKind.u64.wrap (t122))) (shr .u64 a1 (IntKind.u64.wrap (64 - (IntKind.u64.wrap (t122)))))) ((shl .u64 a2 (IntKind.u64.wrap (t122))) / 4294967296))) (IntKind.u64.wrap ((Go.bits .or .u64 (shl .u64 a0 (IntKind.u64.wrap (t122))) (shr .u64 a1 (IntKind.u64.wrap (64 - (IntKind.u64.wrap (t122)))))) - (IntKind.u64.wrap ((IntKind.u64.wrap (Int.tdiv (Go.bits .or .u64 (shl .u64 a0 (IntKind.u64.wrap (t122))) (shr .u64 a1 (IntKind.u64.wrap (64 - (IntKind.u64.wrap (t122)))))) ((shl .u64 a2 (IntKind.u64.wrap (t122))) / 4294967296))) * ((shl .u64 a2 (IntKind.u64.wrap (t122))) / 4294967296))))))) else (none)) else (none)) = some (r1, r2) := H
    have A7 := Aside0.mk A70
    clear A70
    obtain ⟨ji8, hji8⟩ : ∃ j_ : Int, (IntKind.u64.wrap (t122)) = j_ := ⟨_, rfl⟩
    replace H : (if 0 ≤ (ji8) then (if 0 ≤ (IntKind.u64.wrap (64 - (ji8))) then (if ((shl .u64 a2 (ji8)) / 4294967296) = 0 then (none) else (zaB.l0 k (shl .u64 a2 (ji8)) ji8 ((shl .u64 a2 (ji8)) / 4294967296) (Go.bits .and .u64 (shl .u64 a2 (ji8)) 4294967295) (Go.bits .or .u64 (shl .u64 a0 (ji8)) (shr .u64 a1 (IntKind.u64.wrap (64 - (ji8))))) ((shl .u64 a1 (ji8)) / 4294967296) (Go.bits .and .u64 (shl .u64 a1 (ji8)) 4294967295) (IntKind.u64.wrap (Int.tdiv (Go.bits .or .u64 (shl .u64 a0 (ji8)) (shr .u64 a1 (IntKind.u64.wrap (64 - (ji8))))) ((shl .u64 a2 (ji8)) / 4294967296))) (IntKind.u64.wrap ((Go.bits .or .u64 (shl .u64 a0 (ji8)) (shr .u64 a1 (IntKind.u64.wrap (64 - (ji8))))) - (IntKind.u64.wrap ((IntKind.u64.wrap (Int.tdiv (Go.bits .or .u64 (shl .u64 a0 (ji8)) (shr .u64 a1 (IntKind.u64.wrap (64 - (ji8))))) ((shl .u64 a2 (ji8)) / 4294967296))) * ((shl .u64 a2 (ji8)) / 4294967296))))))) else (none)) else (none)) = some (r1, r2) := by first | (rw [hji8] at H; exact H) | (simp only [hji8] at H ⊢; exact H)
    (try rw [hji8] at A7)
    by_cases c9 : 0 ≤ (ji8)
    ·rw [if_pos c9] at H
     have c9b0 := eq_true c9
     have c9b1 : decide (0 ≤ (ji8)) = true := decide_eq_true c9
     clear c9
     obtain ⟨ji10, hji10⟩ : ∃ j_ : Int, (shl .u64 a2 (ji8)) = j_ := ⟨_, rfl⟩
     replace H : (if 0 ≤ (IntKind.u64.wrap (64 - (ji8))) then (if ((ji10) / 4294967296) = 0 then (none) else (zaB.l0 k ji10 ji8 ((ji10) / 4294967296) (Go.bits .and .u64 (ji10) 4294967295) (Go.bits .or .u64 (shl .u64 a0 (ji8)) (shr .u64 a1 (IntKind.u64.wrap (64 - (ji8))))) ((shl .u64 a1 (ji8)) / 4294967296) (Go.bits .and .u64 (shl .u64 a1 (ji8)) 4294967295) (IntKind.u64.wrap (Int.tdiv (Go.bits .or .u64 (shl .u64 a0 (ji8)) (shr .u64 a1 (IntKind.u64.wrap (64 - (ji8))))) ((ji10) / 4294967296))) (IntKind.u64.wrap ((Go.bits .or .u64 (shl .u64 a0 (ji8)) (shr .u64 a1 (IntKind.u64.wrap (64 - (ji8))))) - (IntKind.u64.wrap ((IntKind.u64.wrap (Int.tdiv (Go.bits .or .u64 (shl .u64 a0 (ji8)) (shr .u64 a1 (IntKind.u64.wrap (64 - (ji8))))) ((ji10) / 4294967296))) * ((ji10) / 4294967296))))))) else (none)) = some (r1, r2) := by first | (rw [hji10] at H; exact H) | (simp only [hji10] at H ⊢; exact H)
     (try rw [hji10] at A7)
     have hji10_ : (IntKind.u64.wrap (a2 * 2 ^ min (ji8).toNat 64)) = ji10 := hji10
     have hji10z : (ji8) ≤ 64 → (IntKind.u64.wrap (a2 * 2 ^ (ji8).toNat)) = ji10 := zdl hji10
     have c11b0 := eq_true (of_decide_eq_true (by first | (with_reducible assumption) | assumption) : 0 ≤ (ji8))
     obtain ⟨ji12, hji12⟩ : ∃ j_ : Int, (shl .u64 a0 (ji8)) = j_ := ⟨_, rfl⟩
     replace H : (if 0 ≤ (IntKind.u64.wrap (64 - (ji8))) then (if ((ji10) / 4294967296) = 0 then (none) else (zaB.l0 k ji10 ji8 ((ji10) / 4294967296) (Go.bits .and .u64 (ji10) 4294967295) (Go.bits .or .u64 (ji12) (shr .u64 a1 (IntKind.u64.wrap (64 - (ji8))))) ((shl .u64 a1 (ji8)) / 4294967296) (Go.bits .and .u64 (shl .u64 a1 (ji8)) 4294967295) (IntKind.u64.wrap (Int.tdiv (Go.bits .or .u64 (ji12) (shr .u64 a1 (IntKind.u64.wrap (64 - (ji8))))) ((ji10) / 4294967296))) (IntKind.u64.wrap ((Go.bits .or .u64 (ji12) (shr .u64 a1 (IntKind.u64.wrap (64 - (ji8))))) - (IntKind.u64.wrap ((IntKind.u64.wrap (Int.tdiv (Go.bits .or .u64 (ji12) (shr .u64 a1 (IntKind.u64.wrap (64 - (ji8))))) ((ji10) / 4294967296))) * ((ji10) / 4294967296))))))) else (none)) = some (r1, r2) := by first | (rw [hji12] at H; exact H) | (simp only [hji12] at H ⊢; exact H)
     (try rw [hji12] at A7)
     have hji12_ : (IntKind.u64.wrap (a0 * 2 ^ min (ji8).toNat 64)) = ji12 := hji12
     have hji12z : (ji8) ≤ 64 → (IntKind.u64.wrap (a0 * 2 ^ (ji8).toNat)) = ji12 := zdl hji12
     obtain ⟨ji13, hji13⟩ : ∃ j_ : Int, (IntKind.u64.wrap (64 - (ji8))) = j_ := ⟨_, rfl⟩
     replace H : (if 0 ≤ (ji13) then (if ((ji10) / 4294967296) = 0 then (none) else (zaB.l0 k ji10 ji8 ((ji10) / 4294967296) (Go.bits .and .u64 (ji10) 4294967295) (Go.bits .or .u64 (ji12) (shr .u64 a1 (ji13))) ((shl .u64 a1 (ji8)) / 4294967296) (Go.bits .and .u64 (shl .u64 a1 (ji8)) 4294967295) (IntKind.u64.wrap (Int.tdiv (Go.bits .or .u64 (ji12) (shr .u64 a1 (ji13))) ((ji10) / 4294967296))) (IntKind.u64.wrap ((Go.bits .or .u64 (ji12) (shr .u64 a1 (ji13))) - (IntKind.u64.wrap ((IntKind.u64.wrap (Int.tdiv (Go.bits .or .u64 (ji12) (shr .u64 a1 (ji13))) ((ji10) / 4294967296))) * ((ji10) / 4294967296))))))) else (none)) = some (r1, r2) := by first | (rw [hji13] at H; exact H) | (simp only [hji13] at H ⊢; exact H)
     (try rw [hji13] at A7)
     by_cases c14 : 0 ≤ (ji13)
     ·rw [if_pos c14] at H
      have c14b0 := eq_true c14
      have c14b1 : decide (0 ≤ (ji13)) = true := decide_eq_true c14
      clear c14
      obtain ⟨ji15, hji15⟩ : ∃ j_ : Int, (shr .u64 a1 (ji13)) = j_ := ⟨_, rfl⟩
      replace H : (if ((ji10) / 4294967296) = 0 then (none) else (zaB.l0 k ji10 ji8 ((ji10) / 4294967296) (Go.bits .and .u64 (ji10) 4294967295) (Go.bits .or .u64 (ji12) (ji15)) ((shl .u64 a1 (ji8)) / 4294967296) (Go.bits .and .u64 (shl .u64 a1 (ji8)) 4294967295) (IntKind.u64.wrap (Int.tdiv (Go.bits .or .u64 (ji12) (ji15)) ((ji10) / 4294967296))) (IntKind.u64.wrap ((Go.bits .or .u64 (ji12) (ji15)) - (IntKind.u64.wrap ((IntKind.u64.wrap (Int.tdiv (Go.bits .or .u64 (ji12) (ji15)) ((ji10) / 4294967296))) * ((ji10) / 4294967296))))))) = some (r1, r2) := by first | (rw [hji15] at H; exact H) | (simp only [hji15] at H ⊢; exact H)
      (try rw [hji15] at A7)
      have hji15_ : (a1 / 2 ^ min (ji13).toNat 64) = ji15 := hji15
      have hji15z : (ji13) ≤ 64 → (a1 / 2 ^ (ji13).toNat) = ji15 := zdk hji15
      have c16b0 := eq_true (of_decide_eq_true (by first | (with_reducible assumption) | assumption) : 0 ≤ (ji8))
      obtain ⟨ji17, hji17⟩ : ∃ j_ : Int, (shl .u64 a1 (ji8)) = j_ := ⟨_, rfl⟩
      replace H : (if ((ji10) / 4294967296) = 0 then (none) else (zaB.l0 k ji10 ji8 ((ji10) / 4294967296) (Go.bits .and .u64 (ji10) 4294967295) (Go.bits .or .u64 (ji12) (ji15)) ((ji17) / 4294967296) (Go.bits .and .u64 (ji17) 4294967295) (IntKind.u64.wrap (Int.tdiv (Go.bits .or .u64 (ji12) (ji15)) ((ji10) / 4294967296))) (IntKind.u64.wrap ((Go.bits .or .u64 (ji12) (ji15)) - (IntKind.u64.wrap ((IntKind.u64.wrap (Int.tdiv (Go.bits .or .u64 (ji12) (ji15)) ((ji10) / 4294967296))) * ((ji10) / 4294967296))))))) = some (r1, r2) := by first | (rw [hji17] at H; exact H) | (simp only [hji17] at H ⊢; exact H)
      (try rw [hji17] at A7)
      have hji17_ : (IntKind.u64.wrap (a1 * 2 ^ min (ji8).toNat 64)) = ji17 := hji17
      have hji17z : (ji8) ≤ 64 → (IntKind.u64.wrap (a1 * 2 ^ (ji8).toNat)) = ji17 := zdl hji17
      by_cases c18 : ((ji10) / 4294967296) = 0
      ·rw [if_pos c18] at H
       exact absurd H (by simp)
      ·rw [if_neg c18] at H
       have c18b0 : (((ji10) / 4294967296) == 0) = false := beq_eq_false_iff_ne.mpr c18
       have c18b1 : (((ji10) / 4294967296) != 0) = true := bne_iff_ne.mpr c18
       have HC19 := Aside0.mk H
       clear H
       go_enter Tryd.func64, Tryd.ntmps64
       go_upto_block 0 with (first | (go_at_call 80; (with_reducible refine (bits_LeadingZeros64.calls k a2 t122 _ A7.out).mono ?_); rintro e w' ⟨rfl, ⟨nd, rfl⟩⟩; (try first | exact ⟨rfl, _, World.drewN_drewN _ _ _⟩ | exact ⟨rfl, _, Eq.trans (World.drewN_drewN _ _ _) (congrArg (World.drewN _) (Nat.add_assoc _ _ _))⟩)))
       repeat (go_quiet (first | (go_at_call 80; (with_reducible refine (bits_LeadingZeros64.calls k a2 t122 _ A7.out).mono ?_); rintro e w' ⟨rfl, ⟨nd, rfl⟩⟩; (try first | exact ⟨rfl, _, World.drewN_drewN _ _ _⟩ | exact ⟨rfl, _, Eq.trans (World.drewN_drewN _ _ _) (congrArg (World.drewN _) (Nat.add_assoc _ _ _))⟩))); go_upto_block 0 with (first | (go_at_call 80; (with_reducible refine (bits_LeadingZeros64.calls k a2 t122 _ A7.out).mono ?_); rintro e w' ⟨rfl, ⟨nd, rfl⟩⟩; (try first | exact ⟨rfl, _, World.drewN_drewN _ _ _⟩ | exact ⟨rfl, _, Eq.trans (World.drewN_drewN _ _ _) (congrArg (World.drewN _) (Nat.add_assoc _ _ _))⟩))))
       (try simp only [Act.put, List.setIfInBounds_toArray, List.set_cons_zero, List.set_cons_succ])
       go_cut [15] (fun v15 wc => ∃ (kq : Nat) (x15_18 : Int), v15 = .int .u64 x15_18 ∧ Aside0 (zaB.j2 kq ji10 ji8 ((ji10) / 4294967296) (Go.bits .and .u64 (ji10) 4294967295) (Go.bits .or .u64 (ji12) (ji15)) ((ji17) / 4294967296) (Go.bits .and .u64 (ji17) 4294967295) x15_18 = some (r1, r2)) ∧ Aside0 (kq ≤ k) ∧ zaP w wc)
       case first =>
        have H := HC19.out
        clear HC19
        have H' := Aside0.mk H
        clear H
        go_wp2
        repeat (go_quiet (fail); try go_wp2)
        go_loopg [15, 16] k (fun kq v15 v16 w' => ∃ (x15_1 : Int) (x16_1 : Int), v15 = .int .u64 x15_1 ∧ v16 = .int .u64 x16_1 ∧ Aside0 (zaB.l0 kq ji10 ji8 ((ji10) / 4294967296) (Go.bits .and .u64 (ji10) 4294967295) (Go.bits .or .u64 (ji12) (ji15)) ((ji17) / 4294967296) (Go.bits .and .u64 (ji17) 4294967295) x15_1 x16_1 = some (r1, r2)) ∧ Aside0 (kq ≤ k) ∧ zaP w w')
        case atStart => exact ⟨(IntKind.u64.wrap (Int.tdiv (Go.bits .or .u64 (ji12) (ji15)) ((ji10) / 4294967296))), (IntKind.u64.wrap ((Go.bits .or .u64 (ji12) (ji15)) - (IntKind.u64.wrap ((IntKind.u64.wrap (Int.tdiv (Go.bits .or .u64 (ji12) (ji15)) ((ji10) / 4294967296))) * ((ji10) / 4294967296))))), (by first | rfl | (simp; done) | (simp only [← hji10, ← hji12, ← hji15] <;> (first | rfl | simp)) | (simp [*]; done)), (by first | rfl | (simp; done) | (simp only [← hji10, ← hji12, ← hji15] <;> (first | rfl | simp)) | (simp [*]; done)), H', ⟨Nat.le_refl _⟩, by repeat (first | exact zaP.refl _ | apply zaP.step)⟩
        case round =>
         clear H'
         (try clear c1); (try clear p2); (try clear c4); (try clear c4b0); (try clear c4b1); (try clear c5); (try clear c5b0); (try clear c6); (try clear c6b0); (try clear c6b1); (try clear c9); (try clear c9b0); (try clear c9b1); (try clear c11); (try clear c11b0); (try clear c14); (try clear c14b0); (try clear c14b1); (try clear c16); (try clear c16b0); (try clear c18); (try clear c18b0); (try clear c18b1)
         obtain ⟨x15_1, x16_1, rfl, rfl, HA, HK1, ⟨m1, rfl⟩⟩ := hrel
         cases gk with
         | zero => exact absurd HA.out (by simp [zaB.l0])
         | succ k1 =>
          have H := HA.out
          clear HA
          simp only [zaB.l0] at H
          have HC20 := Aside0.mk H
          clear H
          go_upto_region 17 with (fail)
          repeat (go_quiet (fail); go_upto_region 17 with (fail))
          go_cut [78] (fun v78 wc => ∃ (kq : Nat) (x78_19 : Bool), v78 = .bool x78_19 ∧ Aside0 (zaB.j1 kq ji10 ji8 ((ji10) / 4294967296) (Go.bits .and .u64 (ji10) 4294967295) (Go.bits .or .u64 (ji12) (ji15)) ((ji17) / 4294967296) (Go.bits .and .u64 (ji17) 4294967295) x15_1 x16_1 x78_19 = some (r1, r2)) ∧ Aside0 (kq ≤ k1) ∧ zaP w wc)
          case first =>
           have H := HC20.out
           clear HC20
           by_cases c21 : x15_1 ≥ 4294967296
           ·rw [if_pos c21] at H
            have c21b0 : decide (4294967296 ≤ x15_1) = true := decide_eq_true c21
            clear c21
            (first | rw [c21b0] | (simp only [zaL, zaN]; rw [c21b0]) | skip)
            have H' := Aside0.mk H
            clear H
            go_wp2
            repeat (go_quiet (fail); try go_wp2)
            go_meet
            case rel => exact ⟨_, (true), (by first | rfl | (simp; done) | (simp [*]; done)), H', ⟨by have := HK1.out; first | omega | exact Nat.le_refl _⟩, by repeat (first | exact zaP.refl _ | apply zaP.step)⟩
           ·rw [if_neg c21] at H
            have c21b0 : decide (4294967296 ≤ x15_1) = false := decide_eq_false c21
            clear c21
            (first | rw [c21b0] | (simp only [zaL, zaN]; rw [c21b0]) | skip)
            have H' := Aside0.mk H
            clear H
            go_wp2
            repeat (go_quiet (fail); try go_wp2)
            go_meet
            case rel => exact ⟨_, (decide ((IntKind.u64.wrap (x15_1 * (Go.bits .and .u64 (ji10) 4294967295))) > (IntKind.u64.wrap ((IntKind.u64.wrap (4294967296 * x16_1)) + ((ji17) / 4294967296))))), (by first | rfl | (simp; done) | (simp only [← hji10, ← hji17] <;> (first | rfl | simp)) | (simp [*]; done)), H', ⟨by have := HK1.out; first | omega | exact Nat.le_refl _⟩, by repeat (first | exact zaP.refl _ | apply zaP.step)⟩
          case rest =>
           clear HC20
           (try clear c1); (try clear c2); (try clear p2); (try clear c4); (try clear c4b0); (try clear c4b1); (try clear c5); (try clear c5b0); (try clear c6); (try clear c6b0); (try clear c6b1); (try clear c9); (try clear c9b0); (try clear c9b1); (try clear c11); (try clear c11b0); (try clear c14); (try clear c14b0); (try clear c14b1); (try clear c16); (try clear c16b0); (try clear c18); (try clear c18b0); (try clear c18b1); (try clear c21); (try clear c21b0); (try clear p2)
           obtain ⟨kq, x78_19, rfl, HA, HJ19, ⟨mc19, rfl⟩⟩ := hcut
           cases kq with
           | zero => exact absurd HA.out (by simp [zaB.j1])
           | succ kj19 =>
            have H := HA.out
            clear HA
            simp only [zaB.j1] at H
            by_cases c22 : x78_19 = true
            ·subst c22
             have H1 : (if (IntKind.u64.wrap (x16_1 + ((ji10) / 4294967296))) ≥ 4294967296 then (zaB.j2 kj19 ji10 ji8 ((ji10) / 4294967296) (Go.bits .and .u64 (ji10) 4294967295) (Go.bits .or .u64 (ji12) (ji15)) ((ji17) / 4294967296) (Go.bits .and .u64 (ji17) 4294967295) (IntKind.u64.wrap (x15_1 - 1))) else (zaB.l0 kj19 ji10 ji8 ((ji10) / 4294967296) (Go.bits .and .u64 (ji10) 4294967295) (Go.bits .or .u64 (ji12) (ji15)) ((ji17) / 4294967296) (Go.bits .and .u64 (ji17) 4294967295) (IntKind.u64.wrap (x15_1 - 1)) (IntKind.u64.wrap (x16_1 + ((ji10) / 4294967296))))) = some (r1, r2) := by rw [if_pos rfl] at H; exact H
             clear H
             have H := H1
             clear H1
             by_cases c23 : (IntKind.u64.wrap (x16_1 + ((ji10) / 4294967296))) ≥ 4294967296
             ·rw [if_pos c23] at H
              have c23b0 : decide (4294967296 ≤ (IntKind.u64.wrap (x16_1 + ((ji10) / 4294967296)))) = true := decide_eq_true c23
              clear c23
              have H' := Aside0.mk H
              clear H
              go_wp2
              repeat (go_quiet (fail); try go_wp2)
              go_meet
              case rel => exact ⟨_, (IntKind.u64.wrap (x15_1 - 1)), (by first | rfl | (simp; done) | (simp [*]; done)), H', ⟨by have := HK1.out; have := HJ19.out; first | omega | exact Nat.le_refl _⟩, by repeat (first | exact zaP.refl _ | apply zaP.step)⟩
             ·rw [if_neg c23] at H
              have c23b0 : decide (4294967296 ≤ (IntKind.u64.wrap (x16_1 + ((ji10) / 4294967296)))) = false := decide_eq_false c23
              clear c23
              have H' := Aside0.mk H
              clear H
              go_wp2
              repeat (go_quiet (fail); try go_wp2)
              go_roundg kj19
              case measure => have := HK1.out; have := HJ19.out; omega
              case rel => exact ⟨(IntKind.u64.wrap (x15_1 - 1)), (IntKind.u64.wrap (x16_1 + ((ji10) / 4294967296))), (by first | rfl | (simp; done) | (simp [*]; done)), (by first | rfl | (simp; done) | (simp only [← hji10] <;> (first | rfl | simp)) | (simp [*]; done)), H', ⟨by have := HK1.out; have := HJ19.out; omega⟩, by repeat (first | exact zaP.refl _ | apply zaP.step)⟩
            ·replace c22 := Bool.eq_false_iff.mpr c22
             subst c22
             have H1 : (zaB.j2 kj19 ji10 ji8 ((ji10) / 4294967296) (Go.bits .and .u64 (ji10) 4294967295) (Go.bits .or .u64 (ji12) (ji15)) ((ji17) / 4294967296) (Go.bits .and .u64 (ji17) 4294967295) x15_1) = some (r1, r2) := by rw [if_neg (show ¬ (false = true) by decide)] at H; exact H
             clear H
             have H := H1
             clear H1
             have H' := Aside0.mk H
             clear H
             go_wp2
             repeat (go_quiet (fail); try go_wp2)
             go_meet
             case rel => exact ⟨_, (x15_1), (by first | rfl | (simp; done) | (simp [*]; done)), H', ⟨by have := HK1.out; have := HJ19.out; first | omega | exact Nat.le_refl _⟩, by repeat (first | exact zaP.refl _ | apply zaP.step)⟩
       case rest =>
        clear HC19
        (try clear c1); (try clear c2); (try clear p2); (try clear c4); (try clear c4b0); (try clear c4b1); (try clear c5); (try clear c5b0); (try clear c6); (try clear c6b0); (try clear c6b1); (try clear c9); (try clear c9b0); (try clear c9b1); (try clear c11); (try clear c11b0); (try clear c14); (try clear c14b0); (try clear c14b1); (try clear c16); (try clear c16b0); (try clear c18); (try clear c18b0); (try clear c18b1); (try clear c19); (try clear c21); (try clear c21b0); (try clear c22); (try clear c23); (try clear c23b0); (try clear p2)
        obtain ⟨kq, x15_18, rfl, HA, HJ18, ⟨mc18, rfl⟩⟩ := hcut
        cases kq with
        | zero => exact absurd HA.out (by simp [zaB.j2])
        | succ kj18 =>
         have H := HA.out
         clear HA
         simp only [zaB.j2] at H
         by_cases c24 : ((ji10) / 4294967296) = 0
         ·rw [if_pos c24] at H
          exact absurd H (by simp)
         ·rw [if_neg c24] at H
          have c24b0 : (((ji10) / 4294967296) == 0) = false := beq_eq_false_iff_ne.mpr c24
          have c24b1 : (((ji10) / 4294967296) != 0) = true := bne_iff_ne.mpr c24
          have H' := Aside0.mk H
          clear H
          go_wp2
          repeat (go_quiet (fail); try go_wp2)
          go_loopg [16, 18] kj18 (fun kq v16 v18 w' => ∃ (x16_2 : Int) (x18_2 : Int), v16 = .int .u64 x16_2 ∧ v18 = .int .u64 x18_2 ∧ Aside0 (zaB.l1 kq ji10 ji8 ((ji10) / 4294967296) (Go.bits .and .u64 (ji10) 4294967295) (Go.bits .and .u64 (ji17) 4294967295) x15_18 x16_2 (IntKind.u64.wrap ((IntKind.u64.wrap ((IntKind.u64.wrap ((Go.bits .or .u64 (ji12) (ji15)) * 4294967296)) + ((ji17) / 4294967296))) - (IntKind.u64.wrap (x15_18 * ji10)))) x18_2 = some (r1, r2)) ∧ Aside0 (kq ≤ kj18) ∧ zaP w w')
          case atStart => exact ⟨(IntKind.u64.wrap ((IntKind.u64.wrap ((IntKind.u64.wrap ((IntKind.u64.wrap ((Go.bits .or .u64 (ji12) (ji15)) * 4294967296)) + ((ji17) / 4294967296))) - (IntKind.u64.wrap (x15_18 * ji10)))) - (IntKind.u64.wrap ((IntKind.u64.wrap (Int.tdiv (IntKind.u64.wrap ((IntKind.u64.wrap ((IntKind.u64.wrap ((Go.bits .or .u64 (ji12) (ji15)) * 4294967296)) + ((ji17) / 4294967296))) - (IntKind.u64.wrap (x15_18 * ji10)))) ((ji10) / 4294967296))) * ((ji10) / 4294967296))))), (IntKind.u64.wrap (Int.tdiv (IntKind.u64.wrap ((IntKind.u64.wrap ((IntKind.u64.wrap ((Go.bits .or .u64 (ji12) (ji15)) * 4294967296)) + ((ji17) / 4294967296))) - (IntKind.u64.wrap (x15_18 * ji10)))) ((ji10) / 4294967296))), (by first | rfl | (simp; done) | (simp only [← hji10, ← hji12, ← hji15, ← hji17] <;> (first | rfl | simp)) | (simp [*]; done)), (by first | rfl | (simp; done) | (simp only [← hji10, ← hji12, ← hji15, ← hji17] <;> (first | rfl | simp)) | (simp [*]; done)), H', ⟨Nat.le_refl _⟩, by repeat (first | exact zaP.refl _ | apply zaP.step)⟩
          case round =>
           clear H'
           (try clear c1); (try clear c2); (try clear p2); (try clear c4); (try clear c4b0); (try clear c4b1); (try clear c5); (try clear c5b0); (try clear c6); (try clear c6b0); (try clear c6b1); (try clear c9); (try clear c9b0); (try clear c9b1); (try clear c11); (try clear c11b0); (try clear c14); (try clear c14b0); (try clear c14b1); (try clear c16); (try clear c16b0); (try clear c18); (try clear c18b0); (try clear c18b1); (try clear c19); (try clear c21); (try clear c21b0); (try clear c22); (try clear c23); (try clear c23b0); (try clear c24); (try clear c24b0); (try clear c24b1); (try clear p2)
           obtain ⟨x16_2, x18_2, rfl, rfl, HA, HK2, ⟨m2, rfl⟩⟩ := hrel
           cases gk with
           | zero => exact absurd HA.out (by simp [zaB.l1])
           | succ k2 =>
            have H := HA.out
            clear HA
            simp only [zaB.l1] at H
            have HC25 := Aside0.mk H
            clear H
            go_upto_region 24 with (fail)
            repeat (go_quiet (fail); go_upto_region 24 with (fail))
            go_cut [113] (fun v113 wc => ∃ (kq : Nat) (x113_24 : Bool), v113 = .bool x113_24 ∧ Aside0 (zaB.j4 kq ji10 ji8 ((ji10) / 4294967296) (Go.bits .and .u64 (ji10) 4294967295) (Go.bits .and .u64 (ji17) 4294967295) x15_18 x16_2 (IntKind.u64.wrap ((IntKind.u64.wrap ((IntKind.u64.wrap ((Go.bits .or .u64 (ji12) (ji15)) * 4294967296)) + ((ji17) / 4294967296))) - (IntKind.u64.wrap (x15_18 * ji10)))) x18_2 x113_24 = some (r1, r2)) ∧ Aside0 (kq ≤ k2) ∧ zaP w wc)
            case first =>
             have H := HC25.out
             clear HC25
             by_cases c26 : x18_2 ≥ 4294967296
             ·rw [if_pos c26] at H
              have c26b0 : decide (4294967296 ≤ x18_2) = true := decide_eq_true c26
              clear c26
              (first | rw [c26b0] | (simp only [zaL, zaN]; rw [c26b0]) | skip)
              have H' := Aside0.mk H
              clear H
              go_wp2
              repeat (go_quiet (fail); try go_wp2)
              go_meet
              case rel => exact ⟨_, (true), (by first | rfl | (simp; done) | (simp [*]; done)), H', ⟨by have := HJ18.out; have := HK2.out; first | omega | exact Nat.le_refl _⟩, by repeat (first | exact zaP.refl _ | apply zaP.step)⟩
             ·rw [if_neg c26] at H
              have c26b0 : decide (4294967296 ≤ x18_2) = false := decide_eq_false c26
              clear c26
              (first | rw [c26b0] | (simp only [zaL, zaN]; rw [c26b0]) | skip)
              have H' := Aside0.mk H
              clear H
              go_wp2
              repeat (go_quiet (fail); try go_wp2)
              go_meet
              case rel => exact ⟨_, (decide ((IntKind.u64.wrap (x18_2 * (Go.bits .and .u64 (ji10) 4294967295))) > (IntKind.u64.wrap ((IntKind.u64.wrap (4294967296 * x16_2)) + (Go.bits .and .u64 (ji17) 4294967295))))), (by first | rfl | (simp; done) | (simp only [← hji10, ← hji17] <;> (first | rfl | simp)) | (simp [*]; done)), H', ⟨by have := HJ18.out; have := HK2.out; first | omega | exact Nat.le_refl _⟩, by repeat (first | exact zaP.refl _ | apply zaP.step)⟩
            case rest =>
             clear HC25
             (try clear c1); (try clear c2); (try clear p2); (try clear c4); (try clear c4b0); (try clear c4b1); (try clear c5); (try clear c5b0); (try clear c6); (try clear c6b0); (try clear c6b1); (try clear c9); (try clear c9b0); (try clear c9b1); (try clear c11); (try clear c11b0); (try clear c14); (try clear c14b0); (try clear c14b1); (try clear c16); (try clear c16b0); (try clear c18); (try clear c18b0); (try clear c18b1); (try clear c19); (try clear c21); (try clear c21b0); (try clear c22); (try clear c23); (try clear c23b0); (try clear c24); (try clear c24b0); (try clear c24b1); (try clear c26); (try clear c26b0); (try clear p2)
             obtain ⟨kq, x113_24, rfl, HA, HJ24, ⟨mc24, rfl⟩⟩ := hcut
             cases kq with
             | zero => exact absurd HA.out (by simp [zaB.j4])
             | succ kj24 =>
              have H := HA.out
              clear HA
              simp only [zaB.j4] at H
              by_cases c27 : x113_24 = true
              ·subst c27
               have H1 : (if (IntKind.u64.wrap (x16_2 + ((ji10) / 4294967296))) ≥ 4294967296 then (if 0 ≤ ji8 then (some (IntKind.u64.wrap ((IntKind.u64.wrap (x15_18 * 4294967296)) + (IntKind.u64.wrap (x18_2 - 1))), shr .u64 (IntKind.u64.wrap ((IntKind.u64.wrap ((IntKind.u64.wrap ((IntKind.u64.wrap ((IntKind.u64.wrap ((IntKind.u64.wrap ((Go.bits .or .u64 (ji12) (ji15)) * 4294967296)) + ((ji17) / 4294967296))) - (IntKind.u64.wrap (x15_18 * ji10)))) * 4294967296)) + (Go.bits .and .u64 (ji17) 4294967295))) - (IntKind.u64.wrap ((IntKind.u64.wrap (x18_2 - 1)) * ji10)))) ji8)) else (none)) else (zaB.l1 kj24 ji10 ji8 ((ji10) / 4294967296) (Go.bits .and .u64 (ji10) 4294967295) (Go.bits .and .u64 (ji17) 4294967295) x15_18 (IntKind.u64.wrap (x16_2 + ((ji10) / 4294967296))) (IntKind.u64.wrap ((IntKind.u64.wrap ((IntKind.u64.wrap ((Go.bits .or .u64 (ji12) (ji15)) * 4294967296)) + ((ji17) / 4294967296))) - (IntKind.u64.wrap (x15_18 * ji10)))) (IntKind.u64.wrap (x18_2 - 1)))) = some (r1, r2) := by rw [if_pos rfl] at H; exact H
               clear H
               have H := H1
               clear H1
               by_cases c28 : (IntKind.u64.wrap (x16_2 + ((ji10) / 4294967296))) ≥ 4294967296
               ·rw [if_pos c28] at H
                have c28b0 : decide (4294967296 ≤ (IntKind.u64.wrap (x16_2 + ((ji10) / 4294967296)))) = true := decide_eq_true c28
                clear c28
                by_cases c29 : 0 ≤ ji8
                ·rw [if_pos c29] at H
                 have c29b0 := eq_true c29
                 have c29b1 : decide (0 ≤ ji8) = true := decide_eq_true c29
                 clear c29
                 obtain ⟨ji30, hji30⟩ : ∃ j_ : Int, (shr .u64 (IntKind.u64.wrap ((IntKind.u64.wrap ((IntKind.u64.wrap ((IntKind.u64.wrap ((IntKind.u64.wrap ((IntKind.u64.wrap ((Go.bits .or .u64 (ji12) (ji15)) * 4294967296)) + ((ji17) / 4294967296))) - (IntKind.u64.wrap (x15_18 * ji10)))) * 4294967296)) + (Go.bits .and .u64 (ji17) 4294967295))) - (IntKind.u64.wrap ((IntKind.u64.wrap (x18_2 - 1)) * ji10)))) ji8) = j_ := ⟨_, rfl⟩
                 replace H : (some (IntKind.u64.wrap ((IntKind.u64.wrap (x15_18 * 4294967296)) + (IntKind.u64.wrap (x18_2 - 1))), ji30)) = some (r1, r2) := by first | (rw [hji30] at H; exact H) | (simp only [hji30] at H ⊢; exact H)
                 have hji30_ : ((IntKind.u64.wrap ((IntKind.u64.wrap ((IntKind.u64.wrap ((IntKind.u64.wrap ((IntKind.u64.wrap ((IntKind.u64.wrap ((Go.bits .or .u64 (ji12) (ji15)) * 4294967296)) + ((ji17) / 4294967296))) - (IntKind.u64.wrap (x15_18 * ji10)))) * 4294967296)) + (Go.bits .and .u64 (ji17) 4294967295))) - (IntKind.u64.wrap ((IntKind.u64.wrap (x18_2 - 1)) * ji10)))) / 2 ^ min ji8.toNat 64) = ji30 := hji30
                 have hji30z : ji8 ≤ 64 → ((IntKind.u64.wrap ((IntKind.u64.wrap ((IntKind.u64.wrap ((IntKind.u64.wrap ((IntKind.u64.wrap ((IntKind.u64.wrap ((Go.bits .or .u64 (ji12) (ji15)) * 4294967296)) + ((ji17) / 4294967296))) - (IntKind.u64.wrap (x15_18 * ji10)))) * 4294967296)) + (Go.bits .and .u64 (ji17) 4294967295))) - (IntKind.u64.wrap ((IntKind.u64.wrap (x18_2 - 1)) * ji10)))) / 2 ^ ji8.toNat) = ji30 := zdk hji30
                 simp only [Option.some.injEq, Prod.mk.injEq] at H
                 obtain ⟨rfl, rfl⟩ := H
                 go_wp2
                 repeat (go_quiet (fail); try go_wp2)
                 go_ret2
                 exact ⟨by first | rfl | (simp; done) | (simp only [← hji8, ← hji10, ← hji12, ← hji13, ← hji15, ← hji17, ← hji30] <;> (first | rfl | simp)) | (simp [*]; done), by repeat (first | exact zaP.refl _ | apply zaP.step)⟩
                ·rw [if_neg c29] at H
                 exact absurd H (by simp)
               ·rw [if_neg c28] at H
                have c28b0 : decide (4294967296 ≤ (IntKind.u64.wrap (x16_2 + ((ji10) / 4294967296)))) = false := decide_eq_false c28
                clear c28
                have H' := Aside0.mk H
                clear H
                go_wp2
                repeat (go_quiet (fail); try go_wp2)
                go_roundg kj24
                case measure => have := HJ18.out; have := HK2.out; have := HJ24.out; omega
                case rel => exact ⟨(IntKind.u64.wrap (x16_2 + ((ji10) / 4294967296))), (IntKind.u64.wrap (x18_2 - 1)), (by first | rfl | (simp; done) | (simp only [← hji10] <;> (first | rfl | simp)) | (simp [*]; done)), (by first | rfl | (simp; done) | (simp [*]; done)), H', ⟨by have := HJ18.out; have := HK2.out; have := HJ24.out; omega⟩, by repeat (first | exact zaP.refl _ | apply zaP.step)⟩
              ·replace c27 := Bool.eq_false_iff.mpr c27
               subst c27
               have H1 : (if 0 ≤ ji8 then (some (IntKind.u64.wrap ((IntKind.u64.wrap (x15_18 * 4294967296)) + x18_2), shr .u64 (IntKind.u64.wrap ((IntKind.u64.wrap ((IntKind.u64.wrap ((IntKind.u64.wrap ((IntKind.u64.wrap ((IntKind.u64.wrap ((Go.bits .or .u64 (ji12) (ji15)) * 4294967296)) + ((ji17) / 4294967296))) - (IntKind.u64.wrap (x15_18 * ji10)))) * 4294967296)) + (Go.bits .and .u64 (ji17) 4294967295))) - (IntKind.u64.wrap (x18_2 * ji10)))) ji8)) else (none)) = some (r1, r2) := by rw [if_neg (show ¬ (false = true) by decide)] at H; exact H
               clear H
               have H := H1
               clear H1
               by_cases c31 : 0 ≤ ji8
               ·rw [if_pos c31] at H
                have c31b0 := eq_true c31
                have c31b1 : decide (0 ≤ ji8) = true := decide_eq_true c31
                clear c31
                obtain ⟨ji32, hji32⟩ : ∃ j_ : Int, (shr .u64 (IntKind.u64.wrap ((IntKind.u64.wrap ((IntKind.u64.wrap ((IntKind.u64.wrap ((IntKind.u64.wrap ((IntKind.u64.wrap ((Go.bits .or .u64 (ji12) (ji15)) * 4294967296)) + ((ji17) / 4294967296))) - (IntKind.u64.wrap (x15_18 * ji10)))) * 4294967296)) + (Go.bits .and .u64 (ji17) 4294967295))) - (IntKind.u64.wrap (x18_2 * ji10)))) ji8) = j_ := ⟨_, rfl⟩
                replace H : (some (IntKind.u64.wrap ((IntKind.u64.wrap (x15_18 * 4294967296)) + x18_2), ji32)) = some (r1, r2) := by first | (rw [hji32] at H; exact H) | (simp only [hji32] at H ⊢; exact H)
                have hji32_ : ((IntKind.u64.wrap ((IntKind.u64.wrap ((IntKind.u64.wrap ((IntKind.u64.wrap ((IntKind.u64.wrap ((IntKind.u64.wrap ((Go.bits .or .u64 (ji12) (ji15)) * 4294967296)) + ((ji17) / 4294967296))) - (IntKind.u64.wrap (x15_18 * ji10)))) * 4294967296)) + (Go.bits .and .u64 (ji17) 4294967295))) - (IntKind.u64.wrap (x18_2 * ji10)))) / 2 ^ min ji8.toNat 64) = ji32 := hji32
                have hji32z : ji8 ≤ 64 → ((IntKind.u64.wrap ((IntKind.u64.wrap ((IntKind.u64.wrap ((IntKind.u64.wrap ((IntKind.u64.wrap ((IntKind.u64.wrap ((Go.bits .or .u64 (ji12) (ji15)) * 4294967296)) + ((ji17) / 4294967296))) - (IntKind.u64.wrap (x15_18 * ji10)))) * 4294967296)) + (Go.bits .and .u64 (ji17) 4294967295))) - (IntKind.u64.wrap (x18_2 * ji10)))) / 2 ^ ji8.toNat) = ji32 := zdk hji32
                simp only [Option.some.injEq, Prod.mk.injEq] at H
                obtain ⟨rfl, rfl⟩ := H
                go_wp2
                repeat (go_quiet (fail); try go_wp2)
                go_ret2
                exact ⟨by first | rfl | (simp; done) | (simp only [← hji8, ← hji10, ← hji12, ← hji13, ← hji15, ← hji17, ← hji32] <;> (first | rfl | simp)) | (simp [*]; done), by repeat (first | exact zaP.refl _ | apply zaP.step)⟩
               ·rw [if_neg c31] at H
                exact absurd H (by simp)
     ·rw [if_neg c14] at H
      exact absurd H (by simp)
    ·rw [if_neg c9] at H
     exact absurd H (by simp)
end Go.Proofs.YtijhnmbegceonaaDoor.PRat
namespace Go.Proofs.YtijhnmbegceonaaDoor.PRat
open Go.RowKit Go.Proofs.YtijhnmbegceonaaDoorW.PrintWords Go.Proofs.YtijhnmbegceonaaDoorW.PrintLast Go.Proofs.YtijhnmbegceonaaDoorW.PrintMore
attribute [local go_sem] zbr zbp zbz zby zbh zbg zbq zbo
set_option linter.unusedVariables false
set_option linter.unusedSimpArgs false
def zbw.f (k : Nat) (a0 : Int) (a1 : Int) (a2 : Int) : Option (Int) := if a2 = 0 then (none) else ((zaB.f k (Int.tmod a0 a2) a1 a2).bind fun bt123 => (some bt123.2))
set_option maxHeartbeats 8000000 in
set_option maxRecDepth 100000 in
theorem zbw.calls (k : Nat) (a0 : Int) (a1 : Int) (a2 : Int) (r : Int) (w : World) (h : zbw.f k a0 a1 a2 = some r) :
  Calls Tryd.prog 63 #[.int .u64 a0, .int .u64 a1, .int .u64 a2] w fun e w' => e = .returned (.int .u64 r) ∧ zaP w w' := by
 have H : (if a2 = 0 then (none) else ((zaB.f k (Int.tmod a0 a2) a1 a2).bind fun bt123 => (some bt123.2))) = some r := h
 clear h
 by_cases c4 : a2 = 0
 ·rw [if_pos c4] at H
  exact absurd H (by simp)
 ·rw [if_neg c4] at H
  have c4b0 : (a2 == 0) = false := beq_eq_false_iff_ne.mpr c4
  have c4b1 : (a2 != 0) = true := bne_iff_ne.mpr c4
  replace H := Option.bind_eq_some_iff.mp H
  obtain ⟨⟨t123, t124⟩, A50, H⟩ := H
  replace H : (some t124) = some r := H
  have A5 := Aside0.mk A50
  clear A50
  obtain rfl := Option.some.inj H
  go_enter Tryd.func63, Tryd.ntmps63
  go_wp2_with (first | ((with_reducible refine zat (f := 64) rfl ?_); refine za9 (some 15) rfl rfl Tryd.func64 (by kernel_rfl) rfl #[.int .u64 (Int.tmod a0 a2), .int .u64 a1, .int .u64 a2] rfl (by (try simp only [List.map_toArray, List.map_cons, List.map_nil]); first | done | rfl | (simp only [List.length_drop, List.length_take]; rfl)) ?_; (with_reducible refine (zaB.calls k (Int.tmod a0 a2) a1 a2 t123 t124 _ A5.out).mono ?_); rintro e w' ⟨rfl, ⟨nd, rfl⟩⟩; refine ⟨_, rfl, ?_⟩))
  go_ret
  exact ⟨by first | rfl | (simp; done) | (simp [*]; done), by repeat (first | exact zaP.refl _ | apply zaP.step)⟩
def zaT.f (a0 : Int) (a1 : Int) : Option (Int × Bool) := (bits_Mul64.f a0 a1).bind fun bt125 => (some (bt125.2, (bt125.1 == 0)))
set_option maxHeartbeats 8000000 in
set_option maxRecDepth 100000 in
theorem zaT.calls (a0 : Int) (a1 : Int) (r1 : Int) (r2 : Bool) (w : World) (h : zaT.f a0 a1 = some (r1, r2)) :
  Calls Tryd.prog 65 #[.int .u64 a0, .int .u64 a1] w fun e w' => e = .returned (.tuple #[.int .u64 r1, .bool r2]) ∧ zaP w w' := by
 have H : ((bits_Mul64.f a0 a1).bind fun bt125 => (some (bt125.2, (bt125.1 == 0)))) = some (r1, r2) := h
 clear h
 replace H := Option.bind_eq_some_iff.mp H
 obtain ⟨⟨t125, t126⟩, A30, H⟩ := H
 replace H : (some (t126, (t125 == 0))) = some (r1, r2) := H
 have A3 := Aside0.mk A30
 clear A30
 simp only [Option.some.injEq, Prod.mk.injEq] at H
 obtain ⟨rfl, rfl⟩ := H
 go_enter Tryd.func65, Tryd.ntmps65
 go_wp2_with (first | ((with_reducible refine zat (f := 77) rfl ?_); refine za9 (some 11) rfl rfl Tryd.func77 (by kernel_rfl) rfl #[.int .u64 a0, .int .u64 a1] rfl (by (try simp only [List.map_toArray, List.map_cons, List.map_nil]); first | done | rfl | (simp only [List.length_drop, List.length_take]; rfl)) ?_; (with_reducible refine (bits_Mul64.calls a0 a1 t125 t126 _ A3.out).mono ?_); rintro e w' ⟨rfl, ⟨nd, rfl⟩⟩; refine ⟨_, rfl, ?_⟩))
 go_ret2
 exact ⟨by first | rfl | (simp; done) | (simp [*]; done), by repeat (first | exact zaP.refl _ | apply zaP.step)⟩
def zbu.j0 : Nat → Int → Int → Bool → Bool → Option (Int × Int × Int)
 | 0, _, _, _, _ => none
 | k + 1, x0, x1, x2, x14 => if x14 = true then (some (0, 0, 3)) else (if x2 = true then (some (wrap64 (-(wrap64 (x0))), wrap64 (x1), 0)) else (some (wrap64 (x0), wrap64 (x1), 0)))
def zbu.f (k : Nat) (a0 : Int) (a1 : Int) (a2 : Bool) : Option (Int × Int × Int) := if a0 > 9223372036854775807 then (zbu.j0 k a0 a1 a2 true) else (zbu.j0 k a0 a1 a2 (decide (a1 > 9223372036854775807)))
set_option maxHeartbeats 8000000 in
set_option maxRecDepth 100000 in
theorem zbu.calls (k : Nat) (a0 : Int) (a1 : Int) (a2 : Bool) (r1 : Int) (r2 : Int) (r3 : Int) (w : World) (h : zbu.f k a0 a1 a2 = some (r1, r2, r3)) :
  Calls Tryd.prog 66 #[.int .u64 a0, .int .u64 a1, .bool a2] w fun e w' => e = .returned (.tuple #[.agg #[.int .i64 r1, .int .i64 r2], .int .i64 r3]) ∧ Below w.heap.size w w' := by
 have hu24 := Tryd.underlying24
 have HB := Aside0.mk (Below.refl w.heap.size w)
 have H : (if a0 > 9223372036854775807 then (zbu.j0 k a0 a1 a2 true) else (zbu.j0 k a0 a1 a2 (decide (a1 > 9223372036854775807)))) = some (r1, r2, r3) := h
 clear h
 have HC4 := Aside0.mk H
 clear H
 go_enter Tryd.func66, Tryd.ntmps66
 go_upto_region 1 with (first | ((with_reducible refine zaK (N := 6) rfl ?_); refine zaI ?hg (N := 6) ?hd (cs := #[.int .i64 0, .int .i64 0]) (t := 24) ?hr ?_; (case hd => rfl); (case hg => rfl); (case hr => first | (go_simp; done) | (go_simp; rfl)); intro gb127 hg w5 hbox hb; have n0_ := Aside0.mk (zam (by repeat (first | (with_reducible first | exact HB.out | apply zac | apply zaa | apply zaf) | exact HB.out)) hb); have n1_ := Aside0.mk (hbox); have n2_ := Aside0.mk ((by rw [hg]; exact (zao (by repeat (first | (with_reducible first | exact HB.out | apply zac | apply zaa | apply zaf) | exact HB.out))) : w.heap.size ≤ gb127)); have n3_ := n2_; clear HB; have HB := n0_; have BK127 := n1_; have GW127 := n2_; have GE127 := n3_; clear n0_ n1_ n2_ n3_; clear hb hbox hg))
 (try simp only [Act.put, List.setIfInBounds_toArray, List.set_cons_zero, List.set_cons_succ])
 go_cut [14] (fun v14 wc => ∃ (kq : Nat) (x14_3 : Bool), v14 = .bool x14_3 ∧ Aside0 (zbu.j0 kq a0 a1 a2 x14_3 = some (r1, r2, r3)) ∧ Aside0 (kq ≤ k) ∧ Aside0 (wc.heap[gb127]? = some (.cells #[.int .i64 0, .int .i64 0] 24 (0, 0))) ∧ Aside0 (Below w.heap.size w wc))
 case first =>
  have H := HC4.out
  clear HC4
  by_cases c6 : a0 > 9223372036854775807
  ·rw [if_pos c6] at H
   have c6b0 : decide (9223372036854775807 < a0) = true := decide_eq_true c6
   clear c6
   (first | rw [c6b0] | (simp only [zaL, zaN]; rw [c6b0]) | skip)
   have H' := Aside0.mk H
   clear H
   go_wp2
   go_meet
   case rel => exact ⟨_, (true), (by first | rfl | (simp; done) | (simp [*]; done)), H', ⟨by first | omega | exact Nat.le_refl _⟩, ⟨by (with_reducible repeat (first | apply zae | apply zai | apply zad)); exact BK127.out⟩, ⟨by repeat (first | (with_reducible first | exact HB.out | apply zac | apply zaa | apply zaf | refine zab ?_ GE127.out) | exact HB.out)⟩⟩
  ·rw [if_neg c6] at H
   have c6b0 : decide (9223372036854775807 < a0) = false := decide_eq_false c6
   clear c6
   (first | rw [c6b0] | (simp only [zaL, zaN]; rw [c6b0]) | skip)
   have H' := Aside0.mk H
   clear H
   go_wp2
   go_meet
   case rel => exact ⟨_, (decide (a1 > 9223372036854775807)), (by first | rfl | (simp; done) | (simp [*]; done)), H', ⟨by first | omega | exact Nat.le_refl _⟩, ⟨by (with_reducible repeat (first | apply zae | apply zai | apply zad)); exact BK127.out⟩, ⟨by repeat (first | (with_reducible first | exact HB.out | apply zac | apply zaa | apply zaf | refine zab ?_ GE127.out) | exact HB.out)⟩⟩
 case rest =>
  clear HC4
  (try clear p2); (try clear c6); (try clear c6b0)
  obtain ⟨kq, x14_3, rfl, HA, HJ3, BK127, HB⟩ := hcut
  cases kq with
  | zero => exact absurd HA.out (by simp [zbu.j0])
  | succ kj3 =>
   have H := HA.out
   clear HA
   simp only [zbu.j0] at H
   by_cases c7 : x14_3 = true
   ·subst c7
    have H1 : (some (0, 0, 3)) = some (r1, r2, r3) := by rw [if_pos rfl] at H; exact H
    clear H
    have H := H1
    clear H1
    simp only [Option.some.injEq, Prod.mk.injEq] at H
    obtain ⟨rfl, rfl, rfl⟩ := H
    have hcz8_0 : wc.cell? ⟨gb127, 0, none⟩ = some (.int .i64 0) := (zak BK127.out 0).trans rfl
    have hcz8_1 : wc.cell? ⟨gb127, 1, none⟩ = some (.int .i64 0) := (zak BK127.out 1).trans rfl
    have hfz8_0 := zah BK127.out 0
    have hfz8_1 := zah BK127.out 1
    go_wp2
    refine bodyPost_ret (za7 rfl _ _ gb127 24 #[.int .i64 0, .int .i64 0] (0, 0) _ rfl (by (with_reducible repeat (first | apply zae | apply zai | apply zad)); refine zay (cs := #[.int .i64 0, .int .i64 0]) ?_ 1 _ rfl; (with_reducible repeat (first | apply zae | apply zai | apply zad)); refine zay (cs := #[.int .i64 0, .int .i64 0]) ?_ 0 _ rfl; (with_reducible repeat (first | apply zae | apply zai | apply zad)); exact BK127.out) Tryd.underlying24 rfl (by kernel_rfl)) rfl ?_
    exact ⟨by first | rfl | (simp [zas, zar] <;> rfl) | (simp [*, zas, zar] <;> rfl), by repeat (first | (with_reducible first | exact HB.out | apply zac | apply zaa | apply zaf | refine zab ?_ GE127.out) | exact HB.out)⟩
   ·replace c7 := Bool.eq_false_iff.mpr c7
    subst c7
    have H1 : (if a2 = true then (some (wrap64 (-(wrap64 (a0))), wrap64 (a1), 0)) else (some (wrap64 (a0), wrap64 (a1), 0))) = some (r1, r2, r3) := by rw [if_neg (show ¬ (false = true) by decide)] at H; exact H
    clear H
    have H := H1
    clear H1
    by_cases c9 : a2 = true
    ·subst c9
     have H1 : (some (wrap64 (-(wrap64 (a0))), wrap64 (a1), 0)) = some (r1, r2, r3) := by rw [if_pos rfl] at H; exact H
     clear H
     have H := H1
     clear H1
     simp only [Option.some.injEq, Prod.mk.injEq] at H
     obtain ⟨rfl, rfl, rfl⟩ := H
     go_wp2_with (first | ((with_reducible refine zaK (N := 8) rfl ?_); refine zaI ?hg (N := 8) ?hd (cs := #[.int .i64 0, .int .i64 0]) (t := 24) ?hr ?_; (case hd => rfl); (case hg => rfl); (case hr => first | (go_simp; done) | (go_simp; rfl)); intro gb128 hg w10 hbox hb; have n0_ := Aside0.mk (zaj (g := gb127) (o := .cells #[.int .i64 0, .int .i64 0] 24 (0, 0)) (by (with_reducible repeat (first | apply zae | apply zai | apply zad)); exact BK127.out) hb); have n1_ := Aside0.mk (zam (by repeat (first | (with_reducible first | exact HB.out | apply zac | apply zaa | apply zaf | refine zab ?_ GE127.out) | exact HB.out)) hb); have n2_ := Aside0.mk (hbox); have n3_ := Aside0.mk ((by rw [hg]; exact (zao (by repeat (first | (with_reducible first | exact HB.out | apply zac | apply zaa | apply zaf | refine zab ?_ GE127.out) | exact HB.out))) : w.heap.size ≤ gb128)); have n4_ := n3_; have n5_ := Aside0.mk ((by rw [hg]; exact Nat.ne_of_lt (za3 (g := gb127) (o := .cells #[.int .i64 0, .int .i64 0] 24 (0, 0)) (by (with_reducible repeat (first | apply zae | apply zai | apply zad)); exact BK127.out)) : gb127 ≠ gb128)); have n6_ := Aside0.mk n5_.out.symm; clear BK127; clear HB; have BK127 := n0_; have HB := n1_; have BK128 := n2_; have GW128 := n3_; have GE128 := n4_; have NB127_128 := n5_; have NB128_127 := n6_; clear n0_ n1_ n2_ n3_ n4_ n5_ n6_; clear hb hbox hg; have hnb11 := NB128_127.out; have hnc11 := NB127_128.out; have hcz12_0 : w10.cell? ⟨gb128, 0, none⟩ = some (.int .i64 0) := (zak BK128.out 0).trans rfl; have hcz12_1 : w10.cell? ⟨gb128, 1, none⟩ = some (.int .i64 0) := (zak BK128.out 1).trans rfl; have hfz12_0 := zah BK128.out 0; have hfz12_1 := zah BK128.out 1; have hcz13_0 : w10.cell? ⟨gb127, 0, none⟩ = some (.int .i64 0) := (zak BK127.out 0).trans rfl; have hcz13_1 : w10.cell? ⟨gb127, 1, none⟩ = some (.int .i64 0) := (zak BK127.out 1).trans rfl; have hfz13_0 := zah BK127.out 0; have hfz13_1 := zah BK127.out 1))
     refine bodyPost_ret (za7 rfl _ _ gb127 24 #[.int .i64 (wrap64 (-(wrap64 (a0)))), .int .i64 (wrap64 (a1))] (0, 0) _ rfl (by (with_reducible repeat (first | apply zae | apply zai | apply zad)); refine zay (cs := #[.int .i64 (wrap64 (-(wrap64 (a0)))), .int .i64 0]) ?_ 1 _ rfl; (with_reducible repeat (first | apply zae | apply zai | apply zad)); refine zay (cs := #[.int .i64 0, .int .i64 0]) ?_ 0 _ rfl; (repeat (first | (with_reducible first | apply zae | apply zai | apply zad) | refine zaA ?_ NB127_128.out _)); exact BK127.out) Tryd.underlying24 rfl (by kernel_rfl)) rfl ?_
     exact ⟨by first | rfl | (simp [zas, zar] <;> rfl) | (simp [*, zas, zar] <;> rfl), by repeat (first | (with_reducible first | exact HB.out | apply zac | apply zaa | apply zaf | refine zab ?_ GE127.out | refine zab ?_ GE128.out) | exact HB.out)⟩
    ·replace c9 := Bool.eq_false_iff.mpr c9
     subst c9
     have H1 : (some (wrap64 (a0), wrap64 (a1), 0)) = some (r1, r2, r3) := by rw [if_neg (show ¬ (false = true) by decide)] at H; exact H
     clear H
     have H := H1
     clear H1
     simp only [Option.some.injEq, Prod.mk.injEq] at H
     obtain ⟨rfl, rfl, rfl⟩ := H
     go_wp2_with (first | ((with_reducible refine zaK (N := 8) rfl ?_); refine zaI ?hg (N := 8) ?hd (cs := #[.int .i64 0, .int .i64 0]) (t := 24) ?hr ?_; (case hd => rfl); (case hg => rfl); (case hr => first | (go_simp; done) | (go_simp; rfl)); intro gb128 hg w14 hbox hb; have n0_ := Aside0.mk (zaj (g := gb127) (o := .cells #[.int .i64 0, .int .i64 0] 24 (0, 0)) (by (with_reducible repeat (first | apply zae | apply zai | apply zad)); exact BK127.out) hb); have n1_ := Aside0.mk (zam (by repeat (first | (with_reducible first | exact HB.out | apply zac | apply zaa | apply zaf | refine zab ?_ GE127.out) | exact HB.out)) hb); have n2_ := Aside0.mk (hbox); have n3_ := Aside0.mk ((by rw [hg]; exact (zao (by repeat (first | (with_reducible first | exact HB.out | apply zac | apply zaa | apply zaf | refine zab ?_ GE127.out) | exact HB.out))) : w.heap.size ≤ gb128)); have n4_ := n3_; have n5_ := Aside0.mk ((by rw [hg]; exact Nat.ne_of_lt (za3 (g := gb127) (o := .cells #[.int .i64 0, .int .i64 0] 24 (0, 0)) (by (with_reducible repeat (first | apply zae | apply zai | apply zad)); exact BK127.out)) : gb127 ≠ gb128)); have n6_ := Aside0.mk n5_.out.symm; clear BK127; clear HB; have BK127 := n0_; have HB := n1_; have BK128 := n2_; have GW128 := n3_; have GE128 := n4_; have NB127_128 := n5_; have NB128_127 := n6_; clear n0_ n1_ n2_ n3_ n4_ n5_ n6_; clear hb hbox hg; have hnb15 := NB128_127.out; have hnc15 := NB127_128.out; have hcz16_0 : w14.cell? ⟨gb128, 0, none⟩ = some (.int .i64 0) := (zak BK128.out 0).trans rfl; have hcz16_1 : w14.cell? ⟨gb128, 1, none⟩ = some (.int .i64 0) := (zak BK128.out 1).trans rfl; have hfz16_0 := zah BK128.out 0; have hfz16_1 := zah BK128.out 1; have hcz17_0 : w14.cell? ⟨gb127, 0, none⟩ = some (.int .i64 0) := (zak BK127.out 0).trans rfl; have hcz17_1 : w14.cell? ⟨gb127, 1, none⟩ = some (.int .i64 0) := (zak BK127.out 1).trans rfl; have hfz17_0 := zah BK127.out 0; have hfz17_1 := zah BK127.out 1))
     refine bodyPost_ret (za7 rfl _ _ gb127 24 #[.int .i64 (wrap64 (a0)), .int .i64 (wrap64 (a1))] (0, 0) _ rfl (by (with_reducible repeat (first | apply zae | apply zai | apply zad)); refine zay (cs := #[.int .i64 (wrap64 (a0)), .int .i64 0]) ?_ 1 _ rfl; (with_reducible repeat (first | apply zae | apply zai | apply zad)); refine zay (cs := #[.int .i64 0, .int .i64 0]) ?_ 0 _ rfl; (repeat (first | (with_reducible first | apply zae | apply zai | apply zad) | refine zaA ?_ NB127_128.out _)); exact BK127.out) Tryd.underlying24 rfl (by kernel_rfl)) rfl ?_
     exact ⟨by first | rfl | (simp [zas, zar] <;> rfl) | (simp [*, zas, zar] <;> rfl), by repeat (first | (with_reducible first | exact HB.out | apply zac | apply zaa | apply zaf | refine zab ?_ GE127.out | refine zab ?_ GE128.out) | exact HB.out)⟩
end Go.Proofs.YtijhnmbegceonaaDoor.PRat
