-- Words and walks, cut to what this law uses (wip/pack.py).
import Derived.Test.YtijhnmbegceonaaDoorProg
import Derived.Below
import Derived.Deep.Draws
import Derived.Deep.AppendLies
import Derived.Maps.AppendAt
import Derived.OwnWalk
import Derived.Laws.BytesArg
import Derived.Laws.MakeOwn
import Derived.Laws.OwnMore
import Derived.Deep.OwnRows
import Derived.Tactics
import Derived.Lib.ConvBytes
import Derived.Laws.Slices
import Derived.WalkKit
import Derived.KernelRfl
import Derived.RowKit3
import Derived.Deep.LoopGhost
import Derived.Deep.QuietTactic
import Derived.BigQuiet
import Derived.WideLaws
import Derived.Deep.DeepCutAuto
import Derived.Deep.CutBlock
import Derived.Deep.RegionHeld3
import Derived.Laws.Rows
import Derived.Lib.AppendStr
import Derived.ArgAppend
import Derived.Laws.IdiomCopy
import Derived.OrdersHeld
import Derived.Laws.BitsLemmas
import Derived.RowKit
import Derived.Test.YtijhnmbegceonaaDoorValX4
import Derived.Test.YtijhnmbegceonaaDoorValX2
import Derived.Test.YtijhnmbegceonaaDoorValX6
import Derived.Test.YtijhnmbegceonaaDoorValX5
namespace Go.Proofs.YtijhnmbegceonaaDoor.PRef
open Go.RowKit Go.Proofs.YtijhnmbegceonaaDoorW.PrintWords Go.Proofs.YtijhnmbegceonaaDoorW.PrintLast Go.Proofs.YtijhnmbegceonaaDoorW.PrintMore
attribute [local go_sem] zbr zbp zbz zby zbh zbg zbq zbo
set_option linter.unusedVariables false
set_option linter.unusedSimpArgs false
def errW : Option Int → Value
 | none => .nilIface
 | some c => .iface 0 (.int .i64 c)
theorem zas : errW none = .nilIface := rfl
theorem zar (c : Int) : errW (some c) = .iface 0 (.int .i64 c) := rfl
theorem zcI : (Tryd.prog.info? 4).map (fun i => (i.zero, i.size, i.bytes)) = some (some (.bool false), 1, 1) := by kernel_rfl
end Go.Proofs.YtijhnmbegceonaaDoor.PRef
namespace Go.Proofs.YtijhnmbegceonaaDoor.PRef
open Go.RowKit Go.Proofs.YtijhnmbegceonaaDoorW.PrintWords Go.Proofs.YtijhnmbegceonaaDoorW.PrintLast Go.Proofs.YtijhnmbegceonaaDoorW.PrintMore
attribute [local go_sem] zbr zbp zbz zby zbh zbg zbq zbo
set_option linter.unusedVariables false
set_option linter.unusedSimpArgs false
def zaY.l0 : Nat → List Bool → List Bool → Int → Option (Bool)
 | 0, _, _, _ => none
 | k + 1, x0, x1, x5 => if x5 ≥ 0 then (if 0 ≤ x5 then (if x5 < (x0.length : Int) then (if x5 < (x1.length : Int) then (if ((rdOf false x0 x5) != (rdOf false x1 x5)) = true then (some (rdOf false x1 x5)) else (zaY.l0 k x0 x1 (wrap64 (x5 - 1)))) else (none)) else (none)) else (none)) else (some false)
def zaY.f (k : Nat) (l0 : List Bool) (l1 : List Bool) : Option (Bool) := if (l0.length : Int) = (l1.length : Int) then (zaY.l0 k l0 l1 (wrap64 ((l0.length : Int) - 1))) else (some (decide ((l0.length : Int) < (l1.length : Int))))
set_option maxHeartbeats 8000000 in
set_option maxRecDepth 100000 in
theorem zaY.calls (k : Nat) (A0 : Option Addr) (c0 : Nat) (l0 : List Bool) (A1 : Option Addr) (c1 : Nat) (l1 : List Bool) (r : Bool) (w : World) (hr0 : Kd.C Kd.bool w A0 l0.length l0) (hc0 : l0.length ≤ c0) (hr1 : Kd.C Kd.bool w A1 l1.length l1) (hc1 : l1.length ≤ c1) (h : zaY.f k l0 l1 = some r) :
  Calls Tryd.prog 70 #[.slice A0 l0.length c0, .slice A1 l1.length c1] w fun e w' => e = .returned (.bool r) ∧ zaP w w' := by
 have HR0 := Aside0.mk hr0
 have HC0 := Aside0.mk hc0
 clear hr0 hc0
 have HR1 := Aside0.mk hr1
 have HC1 := Aside0.mk hc1
 clear hr1 hc1
 have H : (if (l0.length : Int) = (l1.length : Int) then (zaY.l0 k l0 l1 (wrap64 ((l0.length : Int) - 1))) else (some (decide ((l0.length : Int) < (l1.length : Int))))) = some r := h
 clear h
 by_cases c3 : (l0.length : Int) = (l1.length : Int)
 ·rw [if_pos c3] at H
  have c3b0 : ((l0.length : Int) == (l1.length : Int)) = true := beq_iff_eq.mpr c3
  have c3b1 : ((l0.length : Int) != (l1.length : Int)) = false := bne_eq_false_iff_eq.mpr c3
  have c3b2 : (l0.length == l1.length) = true := by first | simpa using c3 | (simp at c3 ⊢; omega)
  clear c3
  have H' := Aside0.mk H
  clear H
  go_enter Tryd.func70, Tryd.ntmps70
  go_wp2
  repeat (go_quiet (fail); try go_wp2)
  go_loopg [5] k (fun kq v5 w' => ∃ (x5_1 : Int), v5 = .int .i64 x5_1 ∧ Aside0 (zaY.l0 kq l0 l1 x5_1 = some r) ∧ Aside0 (kq ≤ k) ∧ zaP w w')
  case atStart => exact ⟨(wrap64 ((l0.length : Int) - 1)), (by first | rfl | (simp; done) | (simp [*]; done)), H', ⟨Nat.le_refl _⟩, by repeat (first | exact zaP.refl _ | apply zaP.step)⟩
  case round =>
   clear H'
   (try clear c1); (try clear p2); (try clear c3); (try clear c3b0); (try clear c3b1); (try clear c3b2)
   obtain ⟨x5_1, rfl, HA, HK1, ⟨m1, rfl⟩⟩ := hrel
   cases gk with
   | zero => exact absurd HA.out (by simp [zaY.l0])
   | succ k1 =>
    have H := HA.out
    clear HA
    simp only [zaY.l0] at H
    by_cases c4 : x5_1 ≥ 0
    ·rw [if_pos c4] at H
     have c4b0 : decide (0 ≤ x5_1) = true := decide_eq_true c4
     clear c4
     by_cases c5 : 0 ≤ x5_1
     ·rw [if_pos c5] at H
      have c5b0 : decide (0 ≤ x5_1) = true := decide_eq_true c5
      clear c5
      by_cases c6 : x5_1 < (l0.length : Int)
      ·rw [if_pos c6] at H
       have c6b0 : decide (x5_1 < (l0.length : Int)) = true := decide_eq_true c6
       clear c6
       by_cases c7 : x5_1 < (l1.length : Int)
       ·rw [if_pos c7] at H
        have c7b0 : decide (x5_1 < (l1.length : Int)) = true := decide_eq_true c7
        clear c7
        by_cases c8 : ((rdOf false l0 x5_1) != (rdOf false l1 x5_1)) = true
        ·rw [if_pos c8] at H
         have c8b0 : ((rdOf false l0 x5_1) != (rdOf false l1 x5_1)) = true := c8
         (try (have c8b1 : decide ((rdOf false l0 x5_1) = (rdOf false l1 x5_1)) = false := by simpa using c8))
         (try (have c8b2 : ((rdOf false l0 x5_1) == (rdOf false l1 x5_1)) = false := by simpa using c8))
         (try (have c8b3 : ¬ ((rdOf false l0 x5_1) = (rdOf false l1 x5_1)) := by simpa using c8))
         (try (have c8b4 : ((!((rdOf false l0 x5_1) == (rdOf false l1 x5_1)))) = true := by simpa [bne] using c8))
         clear c8
         obtain rfl := Option.some.inj H
         have p101 : 0 ≤ (x5_1 : Int) := of_decide_eq_true (by first | (with_reducible assumption) | assumption)
         have q101 : x5_1 < (l0.length : Int) := of_decide_eq_true (by first | (with_reducible assumption) | assumption)
         obtain ⟨ad101, e101, hx101_0⟩ := Kd.zcg HR0.out x5_1 p101 q101
         cases e101
         replace p101 := eq_true p101
         replace q101 := eq_true q101
         have p102 : 0 ≤ (x5_1 : Int) := of_decide_eq_true (by first | (with_reducible assumption) | assumption)
         have q102 : x5_1 < (l1.length : Int) := of_decide_eq_true (by first | (with_reducible assumption) | assumption)
         obtain ⟨ad102, e102, hx102_0⟩ := Kd.zcg HR1.out x5_1 p102 q102
         cases e102
         replace p102 := eq_true p102
         replace q102 := eq_true q102
         have p103 : 0 ≤ (x5_1 : Int) := of_decide_eq_true (by first | (with_reducible assumption) | assumption)
         have q103 : x5_1 < (l1.length : Int) := of_decide_eq_true (by first | (with_reducible assumption) | assumption)
         obtain ⟨ad103, e103, hx103_0⟩ := Kd.zcg HR1.out x5_1 p103 q103
         obtain rfl : ad102 = ad103 := (by injection e103)
         replace p103 := eq_true p103
         replace q103 := eq_true q103
         go_wp2
         repeat (go_quiet (fail); try go_wp2)
         go_ret
         exact ⟨by first | rfl | (simp; done) | (simp [*]; done), by repeat (first | exact zaP.refl _ | apply zaP.step)⟩
        ·rw [if_neg c8] at H
         have c8b0 : ((rdOf false l0 x5_1) != (rdOf false l1 x5_1)) = false := by simpa using c8
         (try (have c8b1 : decide ((rdOf false l0 x5_1) = (rdOf false l1 x5_1)) = true := by simpa using c8))
         (try (have c8b2 : ((rdOf false l0 x5_1) == (rdOf false l1 x5_1)) = true := by simpa using c8))
         (try (have c8b3 : ((!((rdOf false l0 x5_1) == (rdOf false l1 x5_1)))) = false := by simpa [bne] using c8))
         clear c8
         have H' := Aside0.mk H
         clear H
         have p101 : 0 ≤ (x5_1 : Int) := of_decide_eq_true (by first | (with_reducible assumption) | assumption)
         have q101 : x5_1 < (l0.length : Int) := of_decide_eq_true (by first | (with_reducible assumption) | assumption)
         obtain ⟨ad101, e101, hx101_0⟩ := Kd.zcg HR0.out x5_1 p101 q101
         cases e101
         replace p101 := eq_true p101
         replace q101 := eq_true q101
         have p102 : 0 ≤ (x5_1 : Int) := of_decide_eq_true (by first | (with_reducible assumption) | assumption)
         have q102 : x5_1 < (l1.length : Int) := of_decide_eq_true (by first | (with_reducible assumption) | assumption)
         obtain ⟨ad102, e102, hx102_0⟩ := Kd.zcg HR1.out x5_1 p102 q102
         cases e102
         replace p102 := eq_true p102
         replace q102 := eq_true q102
         go_wp2
         repeat (go_quiet (fail); try go_wp2)
         go_roundg k1
         case measure => have := HK1.out; omega
         case rel => exact ⟨(wrap64 (x5_1 - 1)), (by first | rfl | (simp; done) | (simp [*]; done)), H', ⟨by have := HK1.out; omega⟩, by repeat (first | exact zaP.refl _ | apply zaP.step)⟩
       ·rw [if_neg c7] at H
        exact absurd H (by simp)
      ·rw [if_neg c6] at H
       exact absurd H (by simp)
     ·rw [if_neg c5] at H
      exact absurd H (by simp)
    ·rw [if_neg c4] at H
     have c4b0 : decide (0 ≤ x5_1) = false := decide_eq_false c4
     clear c4
     obtain rfl := Option.some.inj H
     go_wp2
     repeat (go_quiet (fail); try go_wp2)
     go_ret
     exact ⟨by first | rfl | (simp; done) | (simp [*]; done), by repeat (first | exact zaP.refl _ | apply zaP.step)⟩
 ·rw [if_neg c3] at H
  have c3b0 : ((l0.length : Int) == (l1.length : Int)) = false := beq_eq_false_iff_ne.mpr c3
  have c3b1 : ((l0.length : Int) != (l1.length : Int)) = true := bne_iff_ne.mpr c3
  have c3b2 : (l0.length == l1.length) = false := by first | simpa using c3 | (simp at c3 ⊢; omega)
  obtain rfl := Option.some.inj H
  go_enter Tryd.func70, Tryd.ntmps70
  go_wp2
  repeat (go_quiet (fail); try go_wp2)
  go_ret
  exact ⟨by first | rfl | (simp; done) | (simp [*]; done), by repeat (first | exact zaP.refl _ | apply zaP.step)⟩
end Go.Proofs.YtijhnmbegceonaaDoor.PRef
namespace Go.Proofs.YtijhnmbegceonaaDoor.PRef
open Go.RowKit Go.Proofs.YtijhnmbegceonaaDoorW.PrintWords Go.Proofs.YtijhnmbegceonaaDoorW.PrintLast Go.Proofs.YtijhnmbegceonaaDoorW.PrintMore
attribute [local go_sem] zbr zbp zbz zby zbh zbg zbq zbo
set_option linter.unusedVariables false
set_option linter.unusedSimpArgs false
def zaF.l0 : Nat → List Bool → Int → Option (List Bool)
 | 0, _, _ => none
 | k + 1, x0, x3 => if x3 > 0 then (if 0 ≤ (wrap64 (x3 - 1)) then (if (wrap64 (x3 - 1)) < (x0.length : Int) then (if (rdOf false x0 (wrap64 (x3 - 1)) = true) then (if 0 ≤ x3 then (if x3 ≤ (x0.length : Int) then (some (x0.take (x3 : Int).toNat)) else (none)) else (none)) else (zaF.l0 k x0 (wrap64 (x3 - 1)))) else (none)) else (none)) else (if 0 ≤ x3 then (if x3 ≤ (x0.length : Int) then (some (x0.take (x3 : Int).toNat)) else (none)) else (none))
def zaF.f (k : Nat) (l0 : List Bool) : Option (List Bool) := zaF.l0 k l0 (l0.length : Int)
set_option maxHeartbeats 8000000 in
set_option maxRecDepth 100000 in
theorem zaF.calls (k : Nat) (P0_ : Nat → Prop) (u9000_ : Value) (l0 : List Bool) (r : List Bool) (w0 w : World) (hB : Below w0.heap.size w0 w) (ho0 : Kd.R Kd.bool 4 w w0.heap.size P0_ u9000_ l0) (h : zaF.f k l0 = some r) :
  Calls Tryd.prog 72 #[u9000_] w fun e w' => ∃ v0_ : Value, e = .returned (v0_) ∧ Kd.R Kd.bool 4 w' w0.heap.size (fun k_ => (P0_ k_ ∨ w.heap.size ≤ k_)) v0_ r ∧ Below w0.heap.size w0 w' ∧ Kept w w' (fun k_ => P0_ k_) := by
 have HO0 := Aside0.mk (show Kd.R Kd.bool 4 w w0.heap.size (fun k_ => (P0_ k_ ∨ w.heap.size ≤ k_)) u9000_ l0 from Kd.zbj ho0 (fun k_ hk => (.inl hk)))
 have HK := Aside0.mk (Kept.refl w (fun k_ => P0_ k_))
 have HW0 := Aside0.mk hB.size
 have HB := Aside0.mk hB
 clear hB
 have H : (zaF.l0 k l0 (l0.length : Int)) = some r := h
 clear h
 have H' := Aside0.mk H
 clear H
 obtain ⟨Ao2, co2, eo2⟩ := Kd.zbx HO0.out
 subst eo2
 go_enter Tryd.func72, Tryd.ntmps72
 go_wp2
 go_loopg [3] k (fun kq v3 w' => ∃ (x3_1 : Int), v3 = .int .i64 x3_1 ∧ Aside0 (zaF.l0 kq l0 x3_1 = some r) ∧ Aside0 (kq ≤ k) ∧ Aside0 (Kd.R Kd.bool 4 w' w0.heap.size (fun k_ => (P0_ k_ ∨ w.heap.size ≤ k_)) (.slice Ao2 l0.length co2) l0) ∧ Aside0 (Kept w w' (fun k_ => P0_ k_)) ∧ Aside0 (Below w0.heap.size w0 w'))
 case atStart => exact ⟨((l0.length : Int)), (by first | rfl | (simp; done) | (simp [*]; done)), H', ⟨Nat.le_refl _⟩, ⟨by (with_reducible repeat (first | apply Kd.zaw | apply Kd.zax | apply Kd.zaE)); exact HO0.out⟩, ⟨by repeat (first | (with_reducible first | exact HK.out | apply Kept.alloc | apply Kept.drewN | apply Kept.drew) | exact HK.out)⟩, ⟨by repeat (first | (with_reducible first | exact HB.out | apply zac | apply zaa | apply zaf) | exact HB.out)⟩⟩
 case round =>
  clear H'
  (try clear p2)
  obtain ⟨x3_1, rfl, HA, HK1, HO_0, HK, HB⟩ := hrel
  cases gk with
  | zero => exact absurd HA.out (by simp [zaF.l0])
  | succ k1 =>
   have H := HA.out
   clear HA
   simp only [zaF.l0] at H
   by_cases c3 : x3_1 > 0
   ·rw [if_pos c3] at H
    have c3b0 : decide (0 < x3_1) = true := decide_eq_true c3
    clear c3
    obtain ⟨ji4, hji4⟩ : ∃ j_ : Int, (wrap64 (x3_1 - 1)) = j_ := ⟨_, rfl⟩
    replace H : (if 0 ≤ (ji4) then (if (ji4) < (l0.length : Int) then (if (rdOf false l0 (ji4) = true) then (if 0 ≤ x3_1 then (if x3_1 ≤ (l0.length : Int) then (some (l0.take (x3_1 : Int).toNat)) else (none)) else (none)) else (zaF.l0 k1 l0 ji4)) else (none)) else (none)) = some r := by first | (rw [hji4] at H; exact H) | (simp only [hji4] at H ⊢; exact H)
    have hji4w : (IntKind.i64.wrap (x3_1 - 1)) = ji4 := (zaL _).trans hji4
    by_cases c5 : 0 ≤ (ji4)
    ·rw [if_pos c5] at H
     have c5b0 : decide (0 ≤ (ji4)) = true := decide_eq_true c5
     clear c5
     by_cases c6 : (ji4) < (l0.length : Int)
     ·rw [if_pos c6] at H
      have c6b0 : decide ((ji4) < (l0.length : Int)) = true := decide_eq_true c6
      clear c6
      obtain ⟨bq7, hbq7⟩ : ∃ b_ : Bool, b_ = (rdOf false l0 (ji4)) := ⟨_, rfl⟩
      replace H : (if (bq7 = true) then (if 0 ≤ x3_1 then (if x3_1 ≤ (l0.length : Int) then (some (l0.take (x3_1 : Int).toNat)) else (none)) else (none)) else (zaF.l0 k1 l0 ji4)) = some r := by rw [← hbq7] at H; exact H
      have Nbq7 := Aside0.mk hbq7
      clear hbq7
      by_cases c8 : (bq7 = true)
      ·subst c8
       have H1 : (if 0 ≤ x3_1 then (if x3_1 ≤ (l0.length : Int) then (some (l0.take (x3_1 : Int).toNat)) else (none)) else (none)) = some r := by rw [if_pos rfl] at H; exact H
       clear H
       have H := H1
       clear H1
       by_cases c9 : 0 ≤ x3_1
       ·rw [if_pos c9] at H
        have c9b0 := eq_true c9
        have c9b1 : decide (0 ≤ x3_1) = true := decide_eq_true c9
        clear c9
        by_cases c10 : x3_1 ≤ (l0.length : Int)
        ·rw [if_pos c10] at H
         have c10b0 := eq_true c10
         have c10b1 : decide (x3_1 ≤ (l0.length : Int)) = true := decide_eq_true c10
         clear c10
         obtain ⟨y105, hy105⟩ : ∃ y_ : List Bool, y_ = (l0.take (x3_1 : Int).toNat) := ⟨_, rfl⟩
         replace H : (some y105) = some r := by first | (rw [hy105]; with_reducible exact H) | (have H2_ := (Option.bind_some _ _).symm.trans H; rw [hy105]; with_reducible exact H2_) | (have H2_ := (Option.bind_some _ _).symm.trans H; with_reducible exact H2_) | with_reducible exact H | (rw [hy105]; exact H) | exact H
         have Ny105 := Aside0.mk hy105
         clear hy105
         obtain rfl := Option.some.inj H
         have p104 : 0 ≤ ((ji4) : Int) := of_decide_eq_true (by first | (with_reducible assumption) | assumption)
         have q104 : (ji4) < (l0.length : Int) := of_decide_eq_true (by first | (with_reducible assumption) | assumption)
         obtain ⟨ad104, e104, hx104_0⟩ := Kd.zcg (Kd.zbk HO_0.out).2.2 (ji4) p104 q104
         (try rw [← Nbq7.out] at hx104_0)
         cases e104
         replace p104 := eq_true p104
         replace q104 := eq_true q104
         have q11 : (x3_1 : Int) ≤ ((l0.length : Int) : Int) := of_decide_eq_true (by first | (with_reducible assumption) | assumption)
         obtain ⟨i011, hi011, _, hsz11, _⟩ := info_parts zcI
         have hcut11 := zeB (P := Tryd.prog) 60 4 .i64 Tryd.underlying60 hi011 (some ad104) l0.length co2 x3_1 (of_decide_eq_true (by first | (with_reducible assumption) | assumption)) q11 (Kd.zbk HO_0.out).2.1
         have hr11 := Kd.zg1 (m := (x3_1 : Int).toNat) HO_0.out (by omega)
         have hy11 : y105.length = (x3_1 : Int).toNat := (by rw [Ny105.out, List.length_take]; omega)
         rw [← Ny105.out] at hr11
         rw [← hy11] at hr11 hcut11
         clear hy11 hi011 hsz11 HO_0
         have HO107 := Aside0.mk hr11
         clear hr11
         replace q11 := eq_true q11
         go_wp2
         go_ret
         exact ⟨_, by first | rfl | (simp [zas, zar] <;> rfl) | (simp only [← hji4]; first | rfl | (simp [zas, zar] <;> rfl)) | (simp [*, zas, zar] <;> rfl), by (with_reducible repeat (first | apply Kd.zaw | apply Kd.zax | apply Kd.zaE)); exact HO107.out, by repeat (first | (with_reducible first | exact HB.out | apply zac | apply zaa | apply zaf) | exact HB.out), by repeat (first | (with_reducible first | exact HK.out | apply Kept.alloc | apply Kept.drewN | apply Kept.drew) | exact HK.out)⟩
        ·rw [if_neg c10] at H
         exact absurd H (by simp)
       ·rw [if_neg c9] at H
        exact absurd H (by simp)
      ·replace c8 := Bool.eq_false_iff.mpr c8
       subst c8
       have H1 : (zaF.l0 k1 l0 ji4) = some r := by rw [if_neg (show ¬ (false = true) by decide)] at H; exact H
       clear H
       have H := H1
       clear H1
       have H' := Aside0.mk H
       clear H
       have p104 : 0 ≤ ((ji4) : Int) := of_decide_eq_true (by first | (with_reducible assumption) | assumption)
       have q104 : (ji4) < (l0.length : Int) := of_decide_eq_true (by first | (with_reducible assumption) | assumption)
       obtain ⟨ad104, e104, hx104_0⟩ := Kd.zcg (Kd.zbk HO_0.out).2.2 (ji4) p104 q104
       (try rw [← Nbq7.out] at hx104_0)
       cases e104
       replace p104 := eq_true p104
       replace q104 := eq_true q104
       go_wp2
       go_roundg k1
       case measure => have := HK1.out; omega
       case rel => exact ⟨(ji4), (by first | rfl | (simp; done) | (simp only [← hji4] <;> (first | rfl | simp)) | (simp [*]; done)), H', ⟨by have := HK1.out; omega⟩, ⟨by (with_reducible repeat (first | apply Kd.zaw | apply Kd.zax | apply Kd.zaE)); exact HO_0.out⟩, ⟨by repeat (first | (with_reducible first | exact HK.out | apply Kept.alloc | apply Kept.drewN | apply Kept.drew) | exact HK.out)⟩, ⟨by repeat (first | (with_reducible first | exact HB.out | apply zac | apply zaa | apply zaf) | exact HB.out)⟩⟩
     ·rw [if_neg c6] at H
      exact absurd H (by simp)
    ·rw [if_neg c5] at H
     exact absurd H (by simp)
   ·rw [if_neg c3] at H
    have c3b0 : decide (0 < x3_1) = false := decide_eq_false c3
    clear c3
    by_cases c12 : 0 ≤ x3_1
    ·rw [if_pos c12] at H
     have c12b0 := eq_true c12
     have c12b1 : decide (0 ≤ x3_1) = true := decide_eq_true c12
     clear c12
     by_cases c13 : x3_1 ≤ (l0.length : Int)
     ·rw [if_pos c13] at H
      have c13b0 := eq_true c13
      have c13b1 : decide (x3_1 ≤ (l0.length : Int)) = true := decide_eq_true c13
      clear c13
      obtain ⟨y108, hy108⟩ : ∃ y_ : List Bool, y_ = (l0.take (x3_1 : Int).toNat) := ⟨_, rfl⟩
      replace H : (some y108) = some r := by first | (rw [hy108]; with_reducible exact H) | (have H2_ := (Option.bind_some _ _).symm.trans H; rw [hy108]; with_reducible exact H2_) | (have H2_ := (Option.bind_some _ _).symm.trans H; with_reducible exact H2_) | with_reducible exact H | (rw [hy108]; exact H) | exact H
      have Ny108 := Aside0.mk hy108
      clear hy108
      obtain rfl := Option.some.inj H
      have q14 : (x3_1 : Int) ≤ ((l0.length : Int) : Int) := of_decide_eq_true (by first | (with_reducible assumption) | assumption)
      obtain ⟨i014, hi014, _, hsz14, _⟩ := info_parts zcI
      have hcut14 := zeB (P := Tryd.prog) 60 4 .i64 Tryd.underlying60 hi014 Ao2 l0.length co2 x3_1 (of_decide_eq_true (by first | (with_reducible assumption) | assumption)) q14 (Kd.zbk HO_0.out).2.1
      have hr14 := Kd.zg1 (m := (x3_1 : Int).toNat) HO_0.out (by omega)
      have hy14 : y108.length = (x3_1 : Int).toNat := (by rw [Ny108.out, List.length_take]; omega)
      rw [← Ny108.out] at hr14
      rw [← hy14] at hr14 hcut14
      clear hy14 hi014 hsz14 HO_0
      have HO110 := Aside0.mk hr14
      clear hr14
      replace q14 := eq_true q14
      go_wp2
      go_ret
      exact ⟨_, by first | rfl | (simp [zas, zar] <;> rfl) | (simp [*, zas, zar] <;> rfl), by (with_reducible repeat (first | apply Kd.zaw | apply Kd.zax | apply Kd.zaE)); exact HO110.out, by repeat (first | (with_reducible first | exact HB.out | apply zac | apply zaa | apply zaf) | exact HB.out), by repeat (first | (with_reducible first | exact HK.out | apply Kept.alloc | apply Kept.drewN | apply Kept.drew) | exact HK.out)⟩
     ·rw [if_neg c13] at H
      exact absurd H (by simp)
    ·rw [if_neg c12] at H
     exact absurd H (by simp)
def zaO.f (l0 : List Bool) (a1 : Int) : Option (Bool) := if a1 < (l0.length : Int) then (if 0 ≤ a1 then (some (rdOf false l0 a1)) else (none)) else (some false)
set_option maxHeartbeats 8000000 in
set_option maxRecDepth 100000 in
theorem zaO.calls (A0 : Option Addr) (c0 : Nat) (l0 : List Bool) (a1 : Int) (r : Bool) (w : World) (hr0 : Kd.C Kd.bool w A0 l0.length l0) (hc0 : l0.length ≤ c0) (h : zaO.f l0 a1 = some r) :
  Calls Tryd.prog 81 #[.slice A0 l0.length c0, .int .i64 a1] w fun e w' => e = .returned (.bool r) ∧ zaP w w' := by
 have HR0 := Aside0.mk hr0
 have HC0 := Aside0.mk hc0
 clear hr0 hc0
 have H : (if a1 < (l0.length : Int) then (if 0 ≤ a1 then (some (rdOf false l0 a1)) else (none)) else (some false)) = some r := h
 clear h
 by_cases c3 : a1 < (l0.length : Int)
 ·rw [if_pos c3] at H
  have c3b0 : decide (a1 < (l0.length : Int)) = true := decide_eq_true c3
  clear c3
  by_cases c4 : 0 ≤ a1
  ·rw [if_pos c4] at H
   have c4b0 : decide (0 ≤ a1) = true := decide_eq_true c4
   clear c4
   obtain rfl := Option.some.inj H
   have p111 : 0 ≤ (a1 : Int) := of_decide_eq_true (by first | (with_reducible assumption) | assumption)
   have q111 : a1 < (l0.length : Int) := of_decide_eq_true (by first | (with_reducible assumption) | assumption)
   obtain ⟨ad111, e111, hx111_0⟩ := Kd.zcg HR0.out a1 p111 q111
   cases e111
   replace p111 := eq_true p111
   replace q111 := eq_true q111
   go_enter Tryd.func81, Tryd.ntmps81
   go_wp2
   go_ret
   exact ⟨by first | rfl | (simp; done) | (simp [*]; done), by repeat (first | exact zaP.refl _ | apply zaP.step)⟩
  ·rw [if_neg c4] at H
   exact absurd H (by simp)
 ·rw [if_neg c3] at H
  have c3b0 : decide (a1 < (l0.length : Int)) = false := decide_eq_false c3
  clear c3
  obtain rfl := Option.some.inj H
  go_enter Tryd.func81, Tryd.ntmps81
  go_wp2
  go_ret
  exact ⟨by first | rfl | (simp; done) | (simp [*]; done), by repeat (first | exact zaP.refl _ | apply zaP.step)⟩
end Go.Proofs.YtijhnmbegceonaaDoor.PRef
namespace Go.Proofs.YtijhnmbegceonaaDoor.PRef
open Go.RowKit Go.Proofs.YtijhnmbegceonaaDoorW.PrintWords Go.Proofs.YtijhnmbegceonaaDoorW.PrintLast Go.Proofs.YtijhnmbegceonaaDoorW.PrintMore
attribute [local go_sem] zbr zbp zbz zby zbh zbg zbq zbo
set_option linter.unusedVariables false
set_option linter.unusedSimpArgs false
mutual
def zau.l0 : Nat → List Bool → List Bool → List Bool → Int → Int → Option (List Bool)
 | 0, _, _, _, _, _ => none
 | k + 1, x0, x1, x5, x6, x7 => if x7 < (x0.length : Int) then ((zaO.f x0 x7).bind fun t115 => (if t115 = true then (zau.j1 k x0 x1 x5 x7 (wrap64 ((wrap64 (-x6)) + 1))) else (zau.j1 k x0 x1 x5 x7 (wrap64 (-x6))))) else ((zaF.f k x5).bind fun t112 => (some t112))
def zau.j1 : Nat → List Bool → List Bool → List Bool → Int → Int → Option (List Bool)
 | 0, _, _, _, _, _ => none
 | k + 1, x0, x1, x5, x7, x8 => (zaO.f x1 x7).bind fun t116 => (if t116 = true then (if (wrap64 (x8 - 1)) < 0 then (if x5.length < 140737488355328 then (zau.l0 k x0 x1 (x5 ++ [((wrap64 ((wrap64 (x8 - 1)) + 2)) == 1)]) 1 (wrap64 (x7 + 1))) else (none)) else (if x5.length < 140737488355328 then (zau.l0 k x0 x1 (x5 ++ [((wrap64 (x8 - 1)) == 1)]) 0 (wrap64 (x7 + 1))) else (none))) else (if x8 < 0 then (if x5.length < 140737488355328 then (zau.l0 k x0 x1 (x5 ++ [((wrap64 (x8 + 2)) == 1)]) 1 (wrap64 (x7 + 1))) else (none)) else (if x5.length < 140737488355328 then (zau.l0 k x0 x1 (x5 ++ [(x8 == 1)]) 0 (wrap64 (x7 + 1))) else (none))))
end
def zau.f (k : Nat) (l0 : List Bool) (l1 : List Bool) : Option (List Bool) := zau.l0 k l0 l1 ([] : List Bool) 0 0
set_option maxHeartbeats 8000000 in
set_option maxRecDepth 100000 in
theorem zau.calls (k : Nat) (A0 : Option Addr) (c0 : Nat) (l0 : List Bool) (A1 : Option Addr) (c1 : Nat) (l1 : List Bool) (r : List Bool) (w : World) (hr0 : Kd.C Kd.bool w A0 l0.length l0) (hc0 : l0.length ≤ c0) (hr1 : Kd.C Kd.bool w A1 l1.length l1) (hc1 : l1.length ≤ c1) (h : zau.f k l0 l1 = some r) :
  Calls Tryd.prog 71 #[.slice A0 l0.length c0, .slice A1 l1.length c1] w fun e w' => ∃ v0_ : Value, e = .returned (v0_) ∧ Kd.R Kd.bool 4 w' w.heap.size (fun _ => True) v0_ r ∧ Below w.heap.size w w' := by
 have HR0 := Aside0.mk hr0
 have HC0 := Aside0.mk hc0
 clear hr0 hc0
 have HR1 := Aside0.mk hr1
 have HC1 := Aside0.mk hc1
 clear hr1 hc1
 have HB := Aside0.mk (Below.refl w.heap.size w)
 have H : (zau.l0 k l0 l1 ([] : List Bool) 0 0) = some r := h
 clear h
 have H' := Aside0.mk H
 clear H
 go_enter Tryd.func71, Tryd.ntmps71
 go_wp2
 go_loopg [5, 6, 7] k (fun kq v5 v6 v7 w' => ∃ (x5_1 : List Bool) (x6_1 : Int) (x7_1 : Int), v6 = .int .i64 x6_1 ∧ v7 = .int .i64 x7_1 ∧ Aside0 (zau.l0 kq l0 l1 x5_1 x6_1 x7_1 = some r) ∧ Aside0 (kq ≤ k) ∧ Aside0 (Kd.R Kd.bool 4 w' w.heap.size (fun _ => True) v5 x5_1) ∧ Aside0 (Below w.heap.size w w'))
 case atStart => exact ⟨(([] : List Bool)), (0), (0), (by first | rfl | (simp; done) | (simp [*]; done)), (by first | rfl | (simp; done) | (simp [*]; done)), H', ⟨Nat.le_refl _⟩, ⟨by first | exact Kd.zcL _ _ _ _ _ | exact Kd.zej _ _ _ _ _ | exact Kd.zef _ _ _ _ _ | exact Kd.zei _ _ _ _ _ | exact Kd.zeg _ _ _ _ _⟩, ⟨by repeat (first | (with_reducible first | exact HB.out | apply zac | apply zaa | apply zaf) | exact HB.out)⟩⟩
 case round =>
  clear H'
  (try clear c1); (try clear p2)
  obtain ⟨x5_1, x6_1, x7_1, rfl, rfl, HA, HK1, HO_5, HB⟩ := hrel
  cases gk with
  | zero => exact absurd HA.out (by simp [zau.l0])
  | succ k1 =>
   have H := HA.out
   clear HA
   simp only [zau.l0] at H
   by_cases c3 : x7_1 < (l0.length : Int)
   ·rw [if_pos c3] at H
    have c3b0 : decide (x7_1 < (l0.length : Int)) = true := decide_eq_true c3
    clear c3
    replace H := Option.bind_eq_some_iff.mp H
    obtain ⟨t115, A40, H⟩ := H
    replace H : (if t115 = true then (zau.j1 k1 l0 l1 x5_1 x7_1 (wrap64 ((wrap64 (-x6_1)) + 1))) else (zau.j1 k1 l0 l1 x5_1 x7_1 (wrap64 (-x6_1)))) = some r := H
    have A4 := Aside0.mk A40
    clear A40
    have HC5 := Aside0.mk H
    clear H
    go_upto_if 19 with (first | ((with_reducible refine zat (f := 81) rfl ?_); refine za9 (some 19) rfl rfl Tryd.func81 (by kernel_rfl) rfl #[.slice A0 l0.length c0, .int .i64 x7_1] rfl (by (try simp only [List.map_toArray, List.map_cons, List.map_nil]); first | done | rfl | (simp only [List.length_drop, List.length_take]; rfl)) ?_; (with_reducible refine (zaO.calls _ _ l0 x7_1 t115 _ ?side1 ?side2 A4.out).mono ?_); (case side1 => repeat (first | exact (Kd.zbd HR0.out HB.out) | (with_reducible refine Kd.zbe ?_ _) | (with_reducible refine Kd.zbc ?_ _) | (with_reducible refine Kd.zbt ?_))); (case side2 => exact HC0.out); rintro e w' ⟨rfl, ⟨nd, rfl⟩⟩; refine ⟨_, rfl, ?_⟩))
    (try simp only [Act.put, List.setIfInBounds_toArray, List.set_cons_zero, List.set_cons_succ])
    go_cut [8] (fun v8 wc => ∃ (kq : Nat) (x8_4 : Int), v8 = .int .i64 x8_4 ∧ Aside0 (zau.j1 kq l0 l1 x5_1 x7_1 x8_4 = some r) ∧ Aside0 (kq ≤ k1) ∧ Aside0 (Kd.R Kd.bool 4 wc w.heap.size (fun _ => True) u5 x5_1) ∧ Aside0 (Below w.heap.size w wc))
    case first =>
     have H := HC5.out
     clear HC5
     by_cases c6 : t115 = true
     ·subst c6
      have H1 : (zau.j1 k1 l0 l1 x5_1 x7_1 (wrap64 ((wrap64 (-x6_1)) + 1))) = some r := by rw [if_pos rfl] at H; exact H
      clear H
      have H := H1
      clear H1
      have H' := Aside0.mk H
      clear H
      go_wp2
      go_meet
      case rel => exact ⟨_, (wrap64 ((wrap64 (-x6_1)) + 1)), (by first | rfl | (simp; done) | (simp [*]; done)), H', ⟨by have := HK1.out; first | omega | exact Nat.le_refl _⟩, ⟨by (with_reducible repeat (first | apply Kd.zaw | apply Kd.zax | apply Kd.zaE)); exact HO_5.out⟩, ⟨by repeat (first | (with_reducible first | exact HB.out | apply zac | apply zaa | apply zaf) | exact HB.out)⟩⟩
     ·replace c6 := Bool.eq_false_iff.mpr c6
      subst c6
      have H1 : (zau.j1 k1 l0 l1 x5_1 x7_1 (wrap64 (-x6_1))) = some r := by rw [if_neg (show ¬ (false = true) by decide)] at H; exact H
      clear H
      have H := H1
      clear H1
      have H' := Aside0.mk H
      clear H
      go_wp2
      go_meet
      case rel => exact ⟨_, (wrap64 (-x6_1)), (by first | rfl | (simp; done) | (simp [*]; done)), H', ⟨by have := HK1.out; first | omega | exact Nat.le_refl _⟩, ⟨by (with_reducible repeat (first | apply Kd.zaw | apply Kd.zax | apply Kd.zaE)); exact HO_5.out⟩, ⟨by repeat (first | (with_reducible first | exact HB.out | apply zac | apply zaa | apply zaf) | exact HB.out)⟩⟩
    case rest =>
     clear HC5
     (try clear c1); (try clear p2); (try clear c3); (try clear c3b0); (try clear c6); (try clear p6); (try clear p2)
     obtain ⟨kq, x8_4, rfl, HA, HJ4, HO_5, HB⟩ := hcut
     cases kq with
     | zero => exact absurd HA.out (by simp [zau.j1])
     | succ kj4 =>
      have H := HA.out
      clear HA
      simp only [zau.j1] at H
      replace H := Option.bind_eq_some_iff.mp H
      obtain ⟨t116, A70, H⟩ := H
      replace H : (if t116 = true then (if (wrap64 (x8_4 - 1)) < 0 then (if x5_1.length < 140737488355328 then (zau.l0 kj4 l0 l1 (x5_1 ++ [((wrap64 ((wrap64 (x8_4 - 1)) + 2)) == 1)]) 1 (wrap64 (x7_1 + 1))) else (none)) else (if x5_1.length < 140737488355328 then (zau.l0 kj4 l0 l1 (x5_1 ++ [((wrap64 (x8_4 - 1)) == 1)]) 0 (wrap64 (x7_1 + 1))) else (none))) else (if x8_4 < 0 then (if x5_1.length < 140737488355328 then (zau.l0 kj4 l0 l1 (x5_1 ++ [((wrap64 (x8_4 + 2)) == 1)]) 1 (wrap64 (x7_1 + 1))) else (none)) else (if x5_1.length < 140737488355328 then (zau.l0 kj4 l0 l1 (x5_1 ++ [(x8_4 == 1)]) 0 (wrap64 (x7_1 + 1))) else (none)))) = some r := H
      have A7 := Aside0.mk A70
      clear A70
      by_cases c8 : t116 = true
      ·subst c8
       have H1 : (if (wrap64 (x8_4 - 1)) < 0 then (if x5_1.length < 140737488355328 then (zau.l0 kj4 l0 l1 (x5_1 ++ [((wrap64 ((wrap64 (x8_4 - 1)) + 2)) == 1)]) 1 (wrap64 (x7_1 + 1))) else (none)) else (if x5_1.length < 140737488355328 then (zau.l0 kj4 l0 l1 (x5_1 ++ [((wrap64 (x8_4 - 1)) == 1)]) 0 (wrap64 (x7_1 + 1))) else (none))) = some r := by rw [if_pos rfl] at H; exact H
       clear H
       have H := H1
       clear H1
       by_cases c9 : (wrap64 (x8_4 - 1)) < 0
       ·rw [if_pos c9] at H
        have c9b0 : decide ((wrap64 (x8_4 - 1)) < 0) = true := decide_eq_true c9
        clear c9
        by_cases c10 : x5_1.length < 140737488355328
        ·rw [if_pos c10] at H
         have LMc10 := Aside0.mk c10
         clear c10
         obtain ⟨y117, hy117⟩ : ∃ y_ : List Bool, y_ = (x5_1 ++ [((wrap64 ((wrap64 (x8_4 - 1)) + 2)) == 1)]) := ⟨_, rfl⟩
         replace H : (zau.l0 kj4 l0 l1 y117 1 (wrap64 (x7_1 + 1))) = some r := by first | (rw [hy117]; with_reducible exact H) | (have H2_ := (Option.bind_some _ _).symm.trans H; rw [hy117]; with_reducible exact H2_) | (have H2_ := (Option.bind_some _ _).symm.trans H; with_reducible exact H2_) | with_reducible exact H | (rw [hy117]; exact H) | exact H
         have Ny117 := Aside0.mk hy117
         clear hy117
         have H' := Aside0.mk H
         clear H
         go_wp2_with (first | ((with_reducible refine zat (f := 81) rfl ?_); refine za9 (some 24) rfl rfl Tryd.func81 (by kernel_rfl) rfl #[.slice A1 l1.length c1, .int .i64 x7_1] rfl (by (try simp only [List.map_toArray, List.map_cons, List.map_nil]); first | done | rfl | (simp only [List.length_drop, List.length_take]; rfl)) ?_; (with_reducible refine (zaO.calls _ _ l1 x7_1 true _ ?side1 ?side2 A7.out).mono ?_); (case side1 => repeat (first | exact (Kd.zbd HR1.out HB.out) | (with_reducible refine Kd.zbe ?_ _) | (with_reducible refine Kd.zbc ?_ _) | (with_reducible refine Kd.zbt ?_))); (case side2 => exact HC1.out); rintro e w' ⟨rfl, ⟨nd, rfl⟩⟩; refine ⟨_, rfl, ?_⟩) | ((with_reducible refine zbs (b := .append) (xs := #[.tmp 31, .tmp 34]) rfl ?_); at_builtin; refine Kd.zb7 Kd.bool (w0 := w) w.heap.size rfl (.tmp 31) (.tmp 34) 60 4 (.bool false) 1 rfl Tryd.underlying60 zcI rfl (by decide) (by omega) u5 x5_1 ((wrap64 ((wrap64 (x8_4 - 1)) + 2)) == 1) [.bool ((wrap64 ((wrap64 (x8_4 - 1)) + 2)) == 1)] (fun _ => True) (fun _ => False) rfl rfl ?aP (fun _ hk => hk.elim) ?aF ?aO ?aB ?aS ?aL ?_; (case aP => exact rfl); (case aB => exact (by repeat (first | (with_reducible first | exact HB.out | apply zac | apply zaa | apply zaf) | exact HB.out))); (case aF => exact (fun _ _ => trivial)); (case aO => exact (by (with_reducible repeat (first | apply Kd.zaw | apply Kd.zax | apply Kd.zaE)); exact HO_5.out)); (case aS => exact (zao (by repeat (first | (with_reducible first | exact HB.out | apply zac | apply zaa | apply zaf) | exact HB.out)))); (case aL => have := LMc10.out; omega); intro v118 w11 ho hb hg hat; rw [← Ny117.out] at ho; have n0_ := Aside0.mk (hb); have n1_ := Aside0.mk (ho); clear HB; clear HO_5; have HB := n0_; have HO119 := n1_; clear n0_ n1_; clear ho hb hg hat))
         go_roundg kj4
         case measure => have := HK1.out; have := HJ4.out; omega
         case rel => exact ⟨(y117), (1), (wrap64 (x7_1 + 1)), (by first | rfl | (simp; done) | (simp [*]; done)), (by first | rfl | (simp; done) | (simp [*]; done)), H', ⟨by have := HK1.out; have := HJ4.out; omega⟩, ⟨by (with_reducible repeat (first | apply Kd.zaw | apply Kd.zax | apply Kd.zaE)); exact HO119.out⟩, ⟨by repeat (first | (with_reducible first | exact HB.out | apply zac | apply zaa | apply zaf) | exact HB.out)⟩⟩
        ·rw [if_neg c10] at H
         exact absurd H (by simp)
       ·rw [if_neg c9] at H
        have c9b0 : decide ((wrap64 (x8_4 - 1)) < 0) = false := decide_eq_false c9
        clear c9
        by_cases c12 : x5_1.length < 140737488355328
        ·rw [if_pos c12] at H
         have LMc12 := Aside0.mk c12
         clear c12
         obtain ⟨y120, hy120⟩ : ∃ y_ : List Bool, y_ = (x5_1 ++ [((wrap64 (x8_4 - 1)) == 1)]) := ⟨_, rfl⟩
         replace H : (zau.l0 kj4 l0 l1 y120 0 (wrap64 (x7_1 + 1))) = some r := by first | (rw [hy120]; with_reducible exact H) | (have H2_ := (Option.bind_some _ _).symm.trans H; rw [hy120]; with_reducible exact H2_) | (have H2_ := (Option.bind_some _ _).symm.trans H; with_reducible exact H2_) | with_reducible exact H | (rw [hy120]; exact H) | exact H
         have Ny120 := Aside0.mk hy120
         clear hy120
         have H' := Aside0.mk H
         clear H
         go_wp2_with (first | ((with_reducible refine zat (f := 81) rfl ?_); refine za9 (some 24) rfl rfl Tryd.func81 (by kernel_rfl) rfl #[.slice A1 l1.length c1, .int .i64 x7_1] rfl (by (try simp only [List.map_toArray, List.map_cons, List.map_nil]); first | done | rfl | (simp only [List.length_drop, List.length_take]; rfl)) ?_; (with_reducible refine (zaO.calls _ _ l1 x7_1 true _ ?side1 ?side2 A7.out).mono ?_); (case side1 => repeat (first | exact (Kd.zbd HR1.out HB.out) | (with_reducible refine Kd.zbe ?_ _) | (with_reducible refine Kd.zbc ?_ _) | (with_reducible refine Kd.zbt ?_))); (case side2 => exact HC1.out); rintro e w' ⟨rfl, ⟨nd, rfl⟩⟩; refine ⟨_, rfl, ?_⟩) | ((with_reducible refine zbs (b := .append) (xs := #[.tmp 31, .tmp 34]) rfl ?_); at_builtin; refine Kd.zb7 Kd.bool (w0 := w) w.heap.size rfl (.tmp 31) (.tmp 34) 60 4 (.bool false) 1 rfl Tryd.underlying60 zcI rfl (by decide) (by omega) u5 x5_1 ((wrap64 (x8_4 - 1)) == 1) [.bool ((wrap64 (x8_4 - 1)) == 1)] (fun _ => True) (fun _ => False) rfl rfl ?aP (fun _ hk => hk.elim) ?aF ?aO ?aB ?aS ?aL ?_; (case aP => exact rfl); (case aB => exact (by repeat (first | (with_reducible first | exact HB.out | apply zac | apply zaa | apply zaf) | exact HB.out))); (case aF => exact (fun _ _ => trivial)); (case aO => exact (by (with_reducible repeat (first | apply Kd.zaw | apply Kd.zax | apply Kd.zaE)); exact HO_5.out)); (case aS => exact (zao (by repeat (first | (with_reducible first | exact HB.out | apply zac | apply zaa | apply zaf) | exact HB.out)))); (case aL => have := LMc12.out; omega); intro v121 w13 ho hb hg hat; rw [← Ny120.out] at ho; have n0_ := Aside0.mk (hb); have n1_ := Aside0.mk (ho); clear HB; clear HO_5; have HB := n0_; have HO122 := n1_; clear n0_ n1_; clear ho hb hg hat))
         go_roundg kj4
         case measure => have := HK1.out; have := HJ4.out; omega
         case rel => exact ⟨(y120), (0), (wrap64 (x7_1 + 1)), (by first | rfl | (simp; done) | (simp [*]; done)), (by first | rfl | (simp; done) | (simp [*]; done)), H', ⟨by have := HK1.out; have := HJ4.out; omega⟩, ⟨by (with_reducible repeat (first | apply Kd.zaw | apply Kd.zax | apply Kd.zaE)); exact HO122.out⟩, ⟨by repeat (first | (with_reducible first | exact HB.out | apply zac | apply zaa | apply zaf) | exact HB.out)⟩⟩
        ·rw [if_neg c12] at H
         exact absurd H (by simp)
      ·replace c8 := Bool.eq_false_iff.mpr c8
       subst c8
       have H1 : (if x8_4 < 0 then (if x5_1.length < 140737488355328 then (zau.l0 kj4 l0 l1 (x5_1 ++ [((wrap64 (x8_4 + 2)) == 1)]) 1 (wrap64 (x7_1 + 1))) else (none)) else (if x5_1.length < 140737488355328 then (zau.l0 kj4 l0 l1 (x5_1 ++ [(x8_4 == 1)]) 0 (wrap64 (x7_1 + 1))) else (none))) = some r := by rw [if_neg (show ¬ (false = true) by decide)] at H; exact H
       clear H
       have H := H1
       clear H1
       by_cases c14 : x8_4 < 0
       ·rw [if_pos c14] at H
        have c14b0 : decide (x8_4 < 0) = true := decide_eq_true c14
        clear c14
        by_cases c15 : x5_1.length < 140737488355328
        ·rw [if_pos c15] at H
         have LMc15 := Aside0.mk c15
         clear c15
         obtain ⟨y123, hy123⟩ : ∃ y_ : List Bool, y_ = (x5_1 ++ [((wrap64 (x8_4 + 2)) == 1)]) := ⟨_, rfl⟩
         replace H : (zau.l0 kj4 l0 l1 y123 1 (wrap64 (x7_1 + 1))) = some r := by first | (rw [hy123]; with_reducible exact H) | (have H2_ := (Option.bind_some _ _).symm.trans H; rw [hy123]; with_reducible exact H2_) | (have H2_ := (Option.bind_some _ _).symm.trans H; with_reducible exact H2_) | with_reducible exact H | (rw [hy123]; exact H) | exact H
         have Ny123 := Aside0.mk hy123
         clear hy123
         have H' := Aside0.mk H
         clear H
         go_wp2_with (first | ((with_reducible refine zat (f := 81) rfl ?_); refine za9 (some 24) rfl rfl Tryd.func81 (by kernel_rfl) rfl #[.slice A1 l1.length c1, .int .i64 x7_1] rfl (by (try simp only [List.map_toArray, List.map_cons, List.map_nil]); first | done | rfl | (simp only [List.length_drop, List.length_take]; rfl)) ?_; (with_reducible refine (zaO.calls _ _ l1 x7_1 false _ ?side1 ?side2 A7.out).mono ?_); (case side1 => repeat (first | exact (Kd.zbd HR1.out HB.out) | (with_reducible refine Kd.zbe ?_ _) | (with_reducible refine Kd.zbc ?_ _) | (with_reducible refine Kd.zbt ?_))); (case side2 => exact HC1.out); rintro e w' ⟨rfl, ⟨nd, rfl⟩⟩; refine ⟨_, rfl, ?_⟩) | ((with_reducible refine zbs (b := .append) (xs := #[.tmp 31, .tmp 34]) rfl ?_); at_builtin; refine Kd.zb7 Kd.bool (w0 := w) w.heap.size rfl (.tmp 31) (.tmp 34) 60 4 (.bool false) 1 rfl Tryd.underlying60 zcI rfl (by decide) (by omega) u5 x5_1 ((wrap64 (x8_4 + 2)) == 1) [.bool ((wrap64 (x8_4 + 2)) == 1)] (fun _ => True) (fun _ => False) rfl rfl ?aP (fun _ hk => hk.elim) ?aF ?aO ?aB ?aS ?aL ?_; (case aP => exact rfl); (case aB => exact (by repeat (first | (with_reducible first | exact HB.out | apply zac | apply zaa | apply zaf) | exact HB.out))); (case aF => exact (fun _ _ => trivial)); (case aO => exact (by (with_reducible repeat (first | apply Kd.zaw | apply Kd.zax | apply Kd.zaE)); exact HO_5.out)); (case aS => exact (zao (by repeat (first | (with_reducible first | exact HB.out | apply zac | apply zaa | apply zaf) | exact HB.out)))); (case aL => have := LMc15.out; omega); intro v124 w16 ho hb hg hat; rw [← Ny123.out] at ho; have n0_ := Aside0.mk (hb); have n1_ := Aside0.mk (ho); clear HB; clear HO_5; have HB := n0_; have HO125 := n1_; clear n0_ n1_; clear ho hb hg hat))
         go_roundg kj4
         case measure => have := HK1.out; have := HJ4.out; omega
         case rel => exact ⟨(y123), (1), (wrap64 (x7_1 + 1)), (by first | rfl | (simp; done) | (simp [*]; done)), (by first | rfl | (simp; done) | (simp [*]; done)), H', ⟨by have := HK1.out; have := HJ4.out; omega⟩, ⟨by (with_reducible repeat (first | apply Kd.zaw | apply Kd.zax | apply Kd.zaE)); exact HO125.out⟩, ⟨by repeat (first | (with_reducible first | exact HB.out | apply zac | apply zaa | apply zaf) | exact HB.out)⟩⟩
        ·rw [if_neg c15] at H
         exact absurd H (by simp)
       ·rw [if_neg c14] at H
        have c14b0 : decide (x8_4 < 0) = false := decide_eq_false c14
        clear c14
        by_cases c17 : x5_1.length < 140737488355328
        ·rw [if_pos c17] at H
         have LMc17 := Aside0.mk c17
         clear c17
         obtain ⟨y126, hy126⟩ : ∃ y_ : List Bool, y_ = (x5_1 ++ [(x8_4 == 1)]) := ⟨_, rfl⟩
         replace H : (zau.l0 kj4 l0 l1 y126 0 (wrap64 (x7_1 + 1))) = some r := by first | (rw [hy126]; with_reducible exact H) | (have H2_ := (Option.bind_some _ _).symm.trans H; rw [hy126]; with_reducible exact H2_) | (have H2_ := (Option.bind_some _ _).symm.trans H; with_reducible exact H2_) | with_reducible exact H | (rw [hy126]; exact H) | exact H
         have Ny126 := Aside0.mk hy126
         clear hy126
         have H' := Aside0.mk H
         clear H
         go_wp2_with (first | ((with_reducible refine zat (f := 81) rfl ?_); refine za9 (some 24) rfl rfl Tryd.func81 (by kernel_rfl) rfl #[.slice A1 l1.length c1, .int .i64 x7_1] rfl (by (try simp only [List.map_toArray, List.map_cons, List.map_nil]); first | done | rfl | (simp only [List.length_drop, List.length_take]; rfl)) ?_; (with_reducible refine (zaO.calls _ _ l1 x7_1 false _ ?side1 ?side2 A7.out).mono ?_); (case side1 => repeat (first | exact (Kd.zbd HR1.out HB.out) | (with_reducible refine Kd.zbe ?_ _) | (with_reducible refine Kd.zbc ?_ _) | (with_reducible refine Kd.zbt ?_))); (case side2 => exact HC1.out); rintro e w' ⟨rfl, ⟨nd, rfl⟩⟩; refine ⟨_, rfl, ?_⟩) | ((with_reducible refine zbs (b := .append) (xs := #[.tmp 31, .tmp 34]) rfl ?_); at_builtin; refine Kd.zb7 Kd.bool (w0 := w) w.heap.size rfl (.tmp 31) (.tmp 34) 60 4 (.bool false) 1 rfl Tryd.underlying60 zcI rfl (by decide) (by omega) u5 x5_1 (x8_4 == 1) [.bool (x8_4 == 1)] (fun _ => True) (fun _ => False) rfl rfl ?aP (fun _ hk => hk.elim) ?aF ?aO ?aB ?aS ?aL ?_; (case aP => exact rfl); (case aB => exact (by repeat (first | (with_reducible first | exact HB.out | apply zac | apply zaa | apply zaf) | exact HB.out))); (case aF => exact (fun _ _ => trivial)); (case aO => exact (by (with_reducible repeat (first | apply Kd.zaw | apply Kd.zax | apply Kd.zaE)); exact HO_5.out)); (case aS => exact (zao (by repeat (first | (with_reducible first | exact HB.out | apply zac | apply zaa | apply zaf) | exact HB.out)))); (case aL => have := LMc17.out; omega); intro v127 w18 ho hb hg hat; rw [← Ny126.out] at ho; have n0_ := Aside0.mk (hb); have n1_ := Aside0.mk (ho); clear HB; clear HO_5; have HB := n0_; have HO128 := n1_; clear n0_ n1_; clear ho hb hg hat))
         go_roundg kj4
         case measure => have := HK1.out; have := HJ4.out; omega
         case rel => exact ⟨(y126), (0), (wrap64 (x7_1 + 1)), (by first | rfl | (simp; done) | (simp [*]; done)), (by first | rfl | (simp; done) | (simp [*]; done)), H', ⟨by have := HK1.out; have := HJ4.out; omega⟩, ⟨by (with_reducible repeat (first | apply Kd.zaw | apply Kd.zax | apply Kd.zaE)); exact HO128.out⟩, ⟨by repeat (first | (with_reducible first | exact HB.out | apply zac | apply zaa | apply zaf) | exact HB.out)⟩⟩
        ·rw [if_neg c17] at H
         exact absurd H (by simp)
   ·rw [if_neg c3] at H
    have c3b0 : decide (x7_1 < (l0.length : Int)) = false := decide_eq_false c3
    clear c3
    replace H := Option.bind_eq_some_iff.mp H
    obtain ⟨t112, A190, H⟩ := H
    replace H : (some t112) = some r := H
    have A19 := Aside0.mk A190
    clear A190
    obtain rfl := Option.some.inj H
    obtain ⟨Ao20, co20, eo20⟩ := Kd.zbx HO_5.out
    subst eo20
    go_wp2_with (first | ((with_reducible refine zat (f := 72) rfl ?_); refine za9 (some 37) rfl rfl Tryd.func72 (by kernel_rfl) rfl #[.slice Ao20 x5_1.length co20] rfl (by (try simp only [List.map_toArray, List.map_cons, List.map_nil]); first | done | rfl | (simp only [List.length_drop, List.length_take]; rfl)) ?_; (with_reducible refine (zaF.calls k1 (fun k_ => some k_ = (.slice Ao20 x5_1.length co20 : Value).ownBlock) (.slice Ao20 x5_1.length co20) x5_1 t112 w _ ?side1 ?side2 A19.out).mono ?_); (case side1 => repeat (first | (with_reducible first | exact HB.out | apply zac | apply zaa | apply zaf) | exact HB.out)); (case side2 => exact Kd.zcB rfl HO_5.out); rintro e w21 ⟨v113, rfl, ho0, hb, hkp⟩; refine ⟨_, rfl, ?_⟩; have n0_ := Aside0.mk (Kd.zbj (ok' := fun k_ => True) ho0 (fun k_ hk_ => trivial)); have n1_ := Aside0.mk (hb); clear HB; clear HO_5; have HO114 := n0_; have HB := n1_; clear n0_ n1_; (try clear hb); (try clear hkp); (try clear ho0)))
    go_ret
    exact ⟨_, by first | rfl | (simp [zas, zar] <;> rfl) | (simp [*, zas, zar] <;> rfl), by (with_reducible repeat (first | apply Kd.zaw | apply Kd.zax | apply Kd.zaE)); exact HO114.out, by repeat (first | (with_reducible first | exact HB.out | apply zac | apply zaa | apply zaf) | exact HB.out)⟩
end Go.Proofs.YtijhnmbegceonaaDoor.PRef
namespace Go.Proofs.YtijhnmbegceonaaDoor.PRef
open Go.RowKit Go.Proofs.YtijhnmbegceonaaDoorW.PrintWords Go.Proofs.YtijhnmbegceonaaDoorW.PrintLast Go.Proofs.YtijhnmbegceonaaDoorW.PrintMore
attribute [local go_sem] zbr zbp zbz zby zbh zbg zbq zbo
set_option linter.unusedVariables false
set_option linter.unusedSimpArgs false
def zav.l0 : Nat → List Bool → List Bool → List Bool → List Bool → Int → Option (List Bool × List Bool)
 | 0, _, _, _, _, _ => none
 | k + 1, x0, x1, x6, x7, x8 => if x8 ≥ 0 then (if 0 ≤ x8 then (if x8 < (x0.length : Int) then ((some (([rdOf false x0 x8] : List Bool) : List Bool)).bind fun y133 => (if y133.length + x7.length < 140737488355328 then ((zaF.f k (y133 ++ x7)).bind fun t139 => ((zaY.f k t139 x1).bind fun t142 => (if t142 = true then ((some (([!t142] : List Bool) : List Bool)).bind fun y143 => (if y143.length + x6.length < 140737488355328 then (zav.l0 k x0 x1 (y143 ++ x6) t139 (wrap64 (x8 - 1))) else (none))) else ((zau.f k t139 x1).bind fun t149 => ((some (([!t142] : List Bool) : List Bool)).bind fun y152 => (if y152.length + x6.length < 140737488355328 then (zav.l0 k x0 x1 (y152 ++ x6) t149 (wrap64 (x8 - 1))) else (none))))))) else (none))) else (none)) else (none)) else ((zaF.f k x6).bind fun t129 => (some (t129, x7)))
def zav.f (k : Nat) (l0 : List Bool) (l1 : List Bool) : Option (List Bool × List Bool) := if (l1.length : Int) = 0 then (some (([] : List Bool), ([] : List Bool))) else (zav.l0 k l0 l1 ([] : List Bool) ([] : List Bool) (wrap64 ((l0.length : Int) - 1)))
set_option maxHeartbeats 8000000 in
set_option maxRecDepth 100000 in
theorem zav.calls (k : Nat) (A0 : Option Addr) (c0 : Nat) (l0 : List Bool) (A1 : Option Addr) (c1 : Nat) (l1 : List Bool) (r1 : List Bool) (r2 : List Bool) (w : World) (hr0 : Kd.C Kd.bool w A0 l0.length l0) (hc0 : l0.length ≤ c0) (hr1 : Kd.C Kd.bool w A1 l1.length l1) (hc1 : l1.length ≤ c1) (h : zav.f k l0 l1 = some (r1, r2)) :
  Calls Tryd.prog 67 #[.slice A0 l0.length c0, .slice A1 l1.length c1] w fun e w' => ∃ v0_ v1_ : Value, e = .returned (.tuple #[v0_, v1_]) ∧ Kd.R Kd.bool 4 w' w.heap.size (fun k_ => some k_ ≠ (v1_ : Value).ownBlock) v0_ r1 ∧ Kd.R Kd.bool 4 w' w.heap.size (fun k_ => some k_ ≠ (v0_ : Value).ownBlock) v1_ r2 ∧ Below w.heap.size w w' := by
 have HR0 := Aside0.mk hr0
 have HC0 := Aside0.mk hc0
 clear hr0 hc0
 have HR1 := Aside0.mk hr1
 have HC1 := Aside0.mk hc1
 clear hr1 hc1
 have HB := Aside0.mk (Below.refl w.heap.size w)
 have H : (if (l1.length : Int) = 0 then (some (([] : List Bool), ([] : List Bool))) else (zav.l0 k l0 l1 ([] : List Bool) ([] : List Bool) (wrap64 ((l0.length : Int) - 1)))) = some (r1, r2) := h
 clear h
 by_cases c3 : (l1.length : Int) = 0
 ·rw [if_pos c3] at H
  have c3b0 : ((l1.length : Int) == 0) = true := beq_iff_eq.mpr c3
  have c3b1 : ((l1.length : Int) != 0) = false := bne_eq_false_iff_eq.mpr c3
  clear c3
  simp only [Option.some.injEq, Prod.mk.injEq] at H
  obtain ⟨rfl, rfl⟩ := H
  go_enter Tryd.func67, Tryd.ntmps67
  go_wp2
  go_ret2
  exact ⟨_, _, by first | rfl | (simp [zas, zar] <;> rfl) | (simp [*, zas, zar] <;> rfl), by first | exact Kd.zcL _ _ _ _ _ | exact Kd.zej _ _ _ _ _ | exact Kd.zef _ _ _ _ _ | exact Kd.zei _ _ _ _ _ | exact Kd.zeg _ _ _ _ _, by first | exact Kd.zcL _ _ _ _ _ | exact Kd.zej _ _ _ _ _ | exact Kd.zef _ _ _ _ _ | exact Kd.zei _ _ _ _ _ | exact Kd.zeg _ _ _ _ _, by repeat (first | (with_reducible first | exact HB.out | apply zac | apply zaa | apply zaf) | exact HB.out)⟩
 ·rw [if_neg c3] at H
  have c3b0 : ((l1.length : Int) == 0) = false := beq_eq_false_iff_ne.mpr c3
  have c3b1 : ((l1.length : Int) != 0) = true := bne_iff_ne.mpr c3
  have c3b2 : ¬ (l1 = []) := fun h_ => c3 (by rw [h_]; rfl)
  have H' := Aside0.mk H
  clear H
  go_enter Tryd.func67, Tryd.ntmps67
  go_wp2
  go_loopg [6, 7, 8] k (fun kq v6 v7 v8 w' => ∃ (x6_1 : List Bool) (x7_1 : List Bool) (x8_1 : Int), v8 = .int .i64 x8_1 ∧ Aside0 (zav.l0 kq l0 l1 x6_1 x7_1 x8_1 = some (r1, r2)) ∧ Aside0 (kq ≤ k) ∧ Aside0 (Kd.R Kd.bool 4 w' w.heap.size (fun k_ => some k_ ≠ (v7 : Value).ownBlock) v6 x6_1) ∧ Aside0 (Kd.R Kd.bool 4 w' w.heap.size (fun k_ => some k_ ≠ (v6 : Value).ownBlock) v7 x7_1) ∧ Aside0 (Below w.heap.size w w'))
  case atStart => exact ⟨(([] : List Bool)), (([] : List Bool)), (wrap64 ((l0.length : Int) - 1)), (by first | rfl | (simp; done) | (simp [*]; done)), H', ⟨Nat.le_refl _⟩, ⟨by first | exact Kd.zcL _ _ _ _ _ | exact Kd.zej _ _ _ _ _ | exact Kd.zef _ _ _ _ _ | exact Kd.zei _ _ _ _ _ | exact Kd.zeg _ _ _ _ _⟩, ⟨by first | exact Kd.zcL _ _ _ _ _ | exact Kd.zej _ _ _ _ _ | exact Kd.zef _ _ _ _ _ | exact Kd.zei _ _ _ _ _ | exact Kd.zeg _ _ _ _ _⟩, ⟨by repeat (first | (with_reducible first | exact HB.out | apply zac | apply zaa | apply zaf) | exact HB.out)⟩⟩
  case round =>
   clear H'
   (try clear c1); (try clear p2); (try clear c3); (try clear c3b0); (try clear c3b1); (try clear c3b2)
   obtain ⟨x6_1, x7_1, x8_1, rfl, HA, HK1, HO_6, HO_7, HB⟩ := hrel
   cases gk with
   | zero => exact absurd HA.out (by simp [zav.l0])
   | succ k1 =>
    have H := HA.out
    clear HA
    simp only [zav.l0] at H
    by_cases c4 : x8_1 ≥ 0
    ·rw [if_pos c4] at H
     have c4b0 : decide (0 ≤ x8_1) = true := decide_eq_true c4
     clear c4
     by_cases c5 : 0 ≤ x8_1
     ·rw [if_pos c5] at H
      have c5b0 : decide (0 ≤ x8_1) = true := decide_eq_true c5
      clear c5
      by_cases c6 : x8_1 < (l0.length : Int)
      ·rw [if_pos c6] at H
       have c6b0 : decide (x8_1 < (l0.length : Int)) = true := decide_eq_true c6
       clear c6
       obtain ⟨y133, hy133⟩ : ∃ y_ : List Bool, y_ = (([rdOf false l0 x8_1] : List Bool)) := ⟨_, rfl⟩
       replace H : (if y133.length + x7_1.length < 140737488355328 then ((zaF.f k1 (y133 ++ x7_1)).bind fun t139 => ((zaY.f k1 t139 l1).bind fun t142 => (if t142 = true then ((some (([!t142] : List Bool) : List Bool)).bind fun y143 => (if y143.length + x6_1.length < 140737488355328 then (zav.l0 k1 l0 l1 (y143 ++ x6_1) t139 (wrap64 (x8_1 - 1))) else (none))) else ((zau.f k1 t139 l1).bind fun t149 => ((some (([!t142] : List Bool) : List Bool)).bind fun y152 => (if y152.length + x6_1.length < 140737488355328 then (zav.l0 k1 l0 l1 (y152 ++ x6_1) t149 (wrap64 (x8_1 - 1))) else (none))))))) else (none)) = some (r1, r2) := by first | (rw [hy133]; with_reducible exact H) | (have H2_ := (Option.bind_some _ _).symm.trans H; rw [hy133]; with_reducible exact H2_) | (have H2_ := (Option.bind_some _ _).symm.trans H; with_reducible exact H2_) | with_reducible exact H | (rw [hy133]; exact H) | exact H
       have Ny133 := Aside0.mk hy133
       clear hy133
       by_cases c7 : y133.length + x7_1.length < 140737488355328
       ·rw [if_pos c7] at H
        have LMc7 := Aside0.mk c7
        clear c7
        obtain ⟨y136, hy136⟩ : ∃ y_ : List Bool, y_ = (y133 ++ x7_1) := ⟨_, rfl⟩
        replace H : ((zaF.f k1 y136).bind fun t139 => ((zaY.f k1 t139 l1).bind fun t142 => (if t142 = true then ((some (([!t142] : List Bool) : List Bool)).bind fun y143 => (if y143.length + x6_1.length < 140737488355328 then (zav.l0 k1 l0 l1 (y143 ++ x6_1) t139 (wrap64 (x8_1 - 1))) else (none))) else ((zau.f k1 t139 l1).bind fun t149 => ((some (([!t142] : List Bool) : List Bool)).bind fun y152 => (if y152.length + x6_1.length < 140737488355328 then (zav.l0 k1 l0 l1 (y152 ++ x6_1) t149 (wrap64 (x8_1 - 1))) else (none))))))) = some (r1, r2) := by first | (rw [hy136]; with_reducible exact H) | (have H2_ := (Option.bind_some _ _).symm.trans H; rw [hy136]; with_reducible exact H2_) | (have H2_ := (Option.bind_some _ _).symm.trans H; with_reducible exact H2_) | with_reducible exact H | (rw [hy136]; exact H) | exact H
        have Ny136 := Aside0.mk hy136
        clear hy136
        replace H := Option.bind_eq_some_iff.mp H
        obtain ⟨t139, A80, H⟩ := H
        replace H : ((zaY.f k1 t139 l1).bind fun t142 => (if t142 = true then ((some (([!t142] : List Bool) : List Bool)).bind fun y143 => (if y143.length + x6_1.length < 140737488355328 then (zav.l0 k1 l0 l1 (y143 ++ x6_1) t139 (wrap64 (x8_1 - 1))) else (none))) else ((zau.f k1 t139 l1).bind fun t149 => ((some (([!t142] : List Bool) : List Bool)).bind fun y152 => (if y152.length + x6_1.length < 140737488355328 then (zav.l0 k1 l0 l1 (y152 ++ x6_1) t149 (wrap64 (x8_1 - 1))) else (none)))))) = some (r1, r2) := H
        have A8 := Aside0.mk A80
        clear A80
        replace H := Option.bind_eq_some_iff.mp H
        obtain ⟨t142, A90, H⟩ := H
        replace H : (if t142 = true then ((some (([!t142] : List Bool) : List Bool)).bind fun y143 => (if y143.length + x6_1.length < 140737488355328 then (zav.l0 k1 l0 l1 (y143 ++ x6_1) t139 (wrap64 (x8_1 - 1))) else (none))) else ((zau.f k1 t139 l1).bind fun t149 => ((some (([!t142] : List Bool) : List Bool)).bind fun y152 => (if y152.length + x6_1.length < 140737488355328 then (zav.l0 k1 l0 l1 (y152 ++ x6_1) t149 (wrap64 (x8_1 - 1))) else (none))))) = some (r1, r2) := H
        have A9 := Aside0.mk A90
        clear A90
        by_cases c10 : t142 = true
        ·subst c10
         have H1 : ((some (([!true] : List Bool) : List Bool)).bind fun y143 => (if y143.length + x6_1.length < 140737488355328 then (zav.l0 k1 l0 l1 (y143 ++ x6_1) t139 (wrap64 (x8_1 - 1))) else (none))) = some (r1, r2) := by rw [if_pos rfl] at H; exact H
         clear H
         have H := H1
         clear H1
         obtain ⟨y143, hy143⟩ : ∃ y_ : List Bool, y_ = (([!true] : List Bool)) := ⟨_, rfl⟩
         replace H : (if y143.length + x6_1.length < 140737488355328 then (zav.l0 k1 l0 l1 (y143 ++ x6_1) t139 (wrap64 (x8_1 - 1))) else (none)) = some (r1, r2) := by first | (rw [hy143]; with_reducible exact H) | (have H2_ := (Option.bind_some _ _).symm.trans H; rw [hy143]; with_reducible exact H2_) | (have H2_ := (Option.bind_some _ _).symm.trans H; with_reducible exact H2_) | with_reducible exact H | (rw [hy143]; exact H) | exact H
         have Ny143 := Aside0.mk hy143
         clear hy143
         by_cases c11 : y143.length + x6_1.length < 140737488355328
         ·rw [if_pos c11] at H
          have LMc11 := Aside0.mk c11
          clear c11
          obtain ⟨y146, hy146⟩ : ∃ y_ : List Bool, y_ = (y143 ++ x6_1) := ⟨_, rfl⟩
          replace H : (zav.l0 k1 l0 l1 y146 t139 (wrap64 (x8_1 - 1))) = some (r1, r2) := by first | (rw [hy146]; with_reducible exact H) | (have H2_ := (Option.bind_some _ _).symm.trans H; rw [hy146]; with_reducible exact H2_) | (have H2_ := (Option.bind_some _ _).symm.trans H; with_reducible exact H2_) | with_reducible exact H | (rw [hy146]; exact H) | exact H
          have Ny146 := Aside0.mk hy146
          clear hy146
          have H' := Aside0.mk H
          clear H
          have p132 : 0 ≤ (x8_1 : Int) := of_decide_eq_true (by first | (with_reducible assumption) | assumption)
          have q132 : x8_1 < (l0.length : Int) := of_decide_eq_true (by first | (with_reducible assumption) | assumption)
          obtain ⟨ad132, e132, hx132_0⟩ := Kd.zcg HR0.out x8_1 p132 q132
          cases e132
          replace hx132_0 := (HB.out.cell (World.block_lt_of_cell? w _ hx132_0)).trans hx132_0
          replace p132 := eq_true p132
          replace q132 := eq_true q132
          go_wp2_with (first | ((with_reducible refine zaK (N := 24) rfl ?_); refine Kd.zeh Kd.bool _ 4 ?hg (N := 24) ?hd (xs := ([rdOf false l0 x8_1] : List Bool)) (inner := [.bool (rdOf false l0 x8_1)]) (ok := fun _ => True) (okp := fun _ => True) ?hr ?hp (fun _ hk => hk) trivial (Below.refl _ _) (Nat.le_refl _) (by simp) ?_; (case hd => rfl); (case hg => rfl); (case hr => first | (go_simp; done) | (go_simp; rfl)); (case hp => exact (Reps.one (show Kd.M Kd.bool _ _ _ (rdOf false l0 x8_1) [.bool (rdOf false l0 x8_1)] from rfl) (Reps.none _ _))); intro v134 w12 ho13 hb hg_ hnew_; clear hg_ hnew_; (first | rw [← Ny133.out] at ho13 | (simp only [Int.reduceToNat] at ho13; rw [← Ny133.out] at ho13)); have n0_ := Aside0.mk (Kd.zbG (by (with_reducible repeat (first | apply Kd.zaw | apply Kd.zax | apply Kd.zaE)); exact HO_6.out) (Kd.zbJ ho13) hb); have n1_ := Aside0.mk (Kd.zbG (by (with_reducible repeat (first | apply Kd.zaw | apply Kd.zax | apply Kd.zaE)); exact HO_7.out) (Kd.zbJ ho13) hb); have n2_ := Aside0.mk (Kd.zbF (Kd.zbU (Kd.zbU ho13 (Kd.R_lt (by (with_reducible repeat (first | apply Kd.zaw | apply Kd.zax | apply Kd.zaE)); exact HO_6.out))) (Kd.R_lt (by (with_reducible repeat (first | apply Kd.zaw | apply Kd.zax | apply Kd.zaE)); exact HO_7.out))) (zao (by repeat (first | (with_reducible first | exact HB.out | apply zac | apply zaa | apply zaf) | exact HB.out)))); have n3_ := Aside0.mk (zam (by repeat (first | (with_reducible first | exact HB.out | apply zac | apply zaa | apply zaf) | exact HB.out)) hb); clear HO_6; clear HO_7; clear HB; have HO_6 := n0_; have HO_7 := n1_; have HO135 := n2_; have HB := n3_; clear n0_ n1_ n2_ n3_; clear hb ho13; obtain ⟨Ao15, co15, eo15⟩ := Kd.zbx HO_7.out; subst eo15) | ((with_reducible refine zbs (b := .append) (xs := #[.tmp 24, .tmp 25]) rfl ?_); at_builtin; refine Kd.zbV Kd.bool (w0 := w) w.heap.size rfl (.tmp 24) (.tmp 25) 60 4 (.bool false) 1 rfl Tryd.underlying60 zcI rfl (by decide) (by omega) v134 y133 x7_1 _ _ _ (fun k_ => some k_ ≠ (u6 : Value).ownBlock ∧ some k_ ≠ (.slice Ao15 x7_1.length co15 : Value).ownBlock) (fun _ => False) rfl rfl ?aO ?aR (fun _ _ h => h) (fun _ h => h.elim) ?aF ?aB ?aS ?aL ?_; (case aR => repeat (first | exact (Kd.zbk HO_7.out).2.2 | (with_reducible refine Kd.zbe ?_ _) | (with_reducible refine Kd.zbc ?_ _) | (with_reducible refine Kd.zbt ?_))); (case aB => exact (by repeat (first | (with_reducible first | exact HB.out | apply zac | apply zaa | apply zaf) | exact HB.out))); (case aF => exact (fun k_ hk => ⟨Kd.fresh' (Kd.R_lt (by (with_reducible repeat (first | apply Kd.zaw | apply Kd.zax | apply Kd.zaE)); exact HO_6.out)) k_ hk, Kd.fresh' (Kd.R_lt (by (with_reducible repeat (first | apply Kd.zaw | apply Kd.zax | apply Kd.zaE)); exact HO_7.out)) k_ hk⟩)); (case aO => exact (by (with_reducible repeat (first | apply Kd.zaw | apply Kd.zax | apply Kd.zaE)); exact Kd.zbj HO135.out (fun _ hk => ⟨hk.1.2, hk.2⟩))); (case aS => exact (zao (by repeat (first | (with_reducible first | exact HB.out | apply zac | apply zaa | apply zaf) | exact HB.out)))); (case aL => have := LMc7.out; omega); intro v137 w14 ho hb hg hat; rw [← Ny136.out] at ho; have n0_ := Aside0.mk (Kd.zch (ok := (fun k_ => some k_ ≠ (.slice Ao15 x7_1.length co15 : Value).ownBlock)) (by (with_reducible repeat (first | apply Kd.zaw | apply Kd.zax | apply Kd.zaE)); exact HO_6.out) hg hat); have n1_ := Aside0.mk (Kd.zch (ok := (fun k_ => some k_ ≠ (u6 : Value).ownBlock)) (by (with_reducible repeat (first | apply Kd.zaw | apply Kd.zax | apply Kd.zaE)); exact HO_7.out) hg hat); have n2_ := Aside0.mk (hb); have n3_ := Aside0.mk (ho); clear HO_6; clear HO_7; clear HB; clear HO135; have HO_6 := n0_; have HO_7 := n1_; have HB := n2_; have HO138 := n3_; clear n0_ n1_ n2_ n3_; clear ho hb hg hat; obtain ⟨Ao16, co16, eo16⟩ := Kd.zbx HO138.out; subst eo16) | ((with_reducible refine zat (f := 72) rfl ?_); refine za9 (some 27) rfl rfl Tryd.func72 (by kernel_rfl) rfl #[.slice Ao16 y136.length co16] rfl (by (try simp only [List.map_toArray, List.map_cons, List.map_nil]); first | done | rfl | (simp only [List.length_drop, List.length_take]; rfl)) ?_; (with_reducible refine (zaF.calls k1 (fun k_ => some k_ = (.slice Ao16 y136.length co16 : Value).ownBlock) (.slice Ao16 y136.length co16) y136 t139 w _ ?side1 ?side2 A8.out).mono ?_); (case side1 => repeat (first | (with_reducible first | exact HB.out | apply zac | apply zaa | apply zaf) | exact HB.out)); (case side2 => exact Kd.zcB rfl HO138.out); rintro e w17 ⟨v140, rfl, ho0, hb, hkp⟩; refine ⟨_, rfl, ?_⟩; have n0_ := Aside0.mk (Kd.zbj (ok' := fun k_ => some k_ ≠ (.slice Ao15 x7_1.length co15 : Value).ownBlock ∧ some k_ ≠ (v140 : Value).ownBlock) (Kd.zcR (HO_6.out) hkp (fun k_ hk_ hs_ => (hk_.2) hs_)) (fun k_ hk_ => ⟨hk_.1.1, fun e_ => Or.elim (ho0.1 k_ e_.symm) (fun hs_ => hk_.2.1 hs_) (fun hn_ => Nat.not_le.2 hk_.2.2 hn_)⟩)); have n1_ := Aside0.mk (Kd.zbj (ok' := fun k_ => some k_ ≠ (u6 : Value).ownBlock ∧ some k_ ≠ (v140 : Value).ownBlock) (Kd.zcR (HO_7.out) hkp (fun k_ hk_ hs_ => (hk_.2) hs_)) (fun k_ hk_ => ⟨hk_.1.1, fun e_ => Or.elim (ho0.1 k_ e_.symm) (fun hs_ => hk_.2.1 hs_) (fun hn_ => Nat.not_le.2 hk_.2.2 hn_)⟩)); have n2_ := Aside0.mk (Kd.zbj (ok' := fun k_ => some k_ ≠ (u6 : Value).ownBlock ∧ some k_ ≠ (.slice Ao15 x7_1.length co15 : Value).ownBlock) ho0 (fun k_ hk_ => ⟨Or.elim hk_ (fun hs_ => fun e_ => (((HO_6.out).1 k_ e_.symm).2) hs_) (fun hn_ => (Kd.fresh' (Kd.R_lt (by (with_reducible repeat (first | apply Kd.zaw | apply Kd.zax | apply Kd.zaE)); exact HO_6.out)) k_ hn_)), Or.elim hk_ (fun hs_ => fun e_ => (((HO_7.out).1 k_ e_.symm).2) hs_) (fun hn_ => (Kd.fresh' (Kd.R_lt (by (with_reducible repeat (first | apply Kd.zaw | apply Kd.zax | apply Kd.zaE)); exact HO_7.out)) k_ hn_))⟩)); have n3_ := Aside0.mk (hb); clear HO_6; clear HO_7; clear HB; clear HO138; have HO_6 := n0_; have HO_7 := n1_; have HO141 := n2_; have HB := n3_; clear n0_ n1_ n2_ n3_; (try clear hb); (try clear hkp); (try clear ho0); obtain ⟨Ao18, co18, eo18⟩ := Kd.zbx HO141.out; subst eo18) | ((with_reducible refine zat (f := 70) rfl ?_); refine za9 (some 30) rfl rfl Tryd.func70 (by kernel_rfl) rfl #[.slice Ao18 t139.length co18, .slice A1 l1.length c1] rfl (by (try simp only [List.map_toArray, List.map_cons, List.map_nil]); first | done | rfl | (simp only [List.length_drop, List.length_take]; rfl)) ?_; (with_reducible refine (zaY.calls k1 _ _ t139 _ _ l1 true _ ?side1 ?side2 ?side3 ?side4 A9.out).mono ?_); (case side1 => repeat (first | exact (Kd.zbk HO141.out).2.2 | (with_reducible refine Kd.zbe ?_ _) | (with_reducible refine Kd.zbc ?_ _) | (with_reducible refine Kd.zbt ?_))); (case side2 => exact (Kd.zbk HO141.out).2.1); (case side3 => repeat (first | exact (Kd.zbd HR1.out HB.out) | (with_reducible refine Kd.zbe ?_ _) | (with_reducible refine Kd.zbc ?_ _) | (with_reducible refine Kd.zbt ?_))); (case side4 => exact HC1.out); rintro e w' ⟨rfl, ⟨nd, rfl⟩⟩; refine ⟨_, rfl, ?_⟩) | ((with_reducible refine zaK (N := 37) rfl ?_); refine Kd.zeh Kd.bool _ 4 ?hg (N := 37) ?hd (xs := ([!true] : List Bool)) (inner := [.bool (!true)]) (ok := fun _ => True) (okp := fun _ => True) ?hr ?hp (fun _ hk => hk) trivial (Below.refl _ _) (Nat.le_refl _) (by simp) ?_; (case hd => rfl); (case hg => rfl); (case hr => first | (go_simp; done) | (go_simp; rfl)); (case hp => exact (Reps.one (show Kd.M Kd.bool _ _ _ (!true) [.bool (!true)] from rfl) (Reps.none _ _))); intro v144 w19 ho20 hb hg_ hnew_; clear hg_ hnew_; (first | rw [← Ny143.out] at ho20 | (simp only [Int.reduceToNat] at ho20; rw [← Ny143.out] at ho20)); have n0_ := Aside0.mk (Kd.zbG (by (with_reducible repeat (first | apply Kd.zaw | apply Kd.zax | apply Kd.zaE)); exact HO_6.out) (Kd.zbJ ho20) hb); have n1_ := Aside0.mk (Kd.zbG (by (with_reducible repeat (first | apply Kd.zaw | apply Kd.zax | apply Kd.zaE)); exact HO_7.out) (Kd.zbJ ho20) hb); have n2_ := Aside0.mk (Kd.zbG (by (with_reducible repeat (first | apply Kd.zaw | apply Kd.zax | apply Kd.zaE)); exact HO141.out) (Kd.zbJ ho20) hb); have n3_ := Aside0.mk (Kd.zbF (Kd.zbU (Kd.zbU (Kd.zbU ho20 (Kd.R_lt (by (with_reducible repeat (first | apply Kd.zaw | apply Kd.zax | apply Kd.zaE)); exact HO_6.out))) (Kd.R_lt (by (with_reducible repeat (first | apply Kd.zaw | apply Kd.zax | apply Kd.zaE)); exact HO_7.out))) (Kd.R_lt (by (with_reducible repeat (first | apply Kd.zaw | apply Kd.zax | apply Kd.zaE)); exact HO141.out))) (zao (by repeat (first | (with_reducible first | exact HB.out | apply zac | apply zaa | apply zaf) | exact HB.out)))); have n4_ := Aside0.mk (zam (by repeat (first | (with_reducible first | exact HB.out | apply zac | apply zaa | apply zaf) | exact HB.out)) hb); clear HO_6; clear HO_7; clear HO141; clear HB; have HO_6 := n0_; have HO_7 := n1_; have HO141 := n2_; have HO145 := n3_; have HB := n4_; clear n0_ n1_ n2_ n3_ n4_; clear hb ho20; obtain ⟨Ao22, co22, eo22⟩ := Kd.zbx HO_6.out; subst eo22) | ((with_reducible refine zbs (b := .append) (xs := #[.tmp 37, .tmp 38]) rfl ?_); at_builtin; refine Kd.zbV Kd.bool (w0 := w) w.heap.size rfl (.tmp 37) (.tmp 38) 60 4 (.bool false) 1 rfl Tryd.underlying60 zcI rfl (by decide) (by omega) v144 y143 x6_1 _ _ _ (fun k_ => some k_ ≠ (.slice Ao22 x6_1.length co22 : Value).ownBlock ∧ some k_ ≠ (.slice Ao15 x7_1.length co15 : Value).ownBlock ∧ some k_ ≠ (.slice Ao18 t139.length co18 : Value).ownBlock) (fun _ => False) rfl rfl ?aO ?aR (fun _ _ h => h) (fun _ h => h.elim) ?aF ?aB ?aS ?aL ?_; (case aR => repeat (first | exact (Kd.zbk HO_6.out).2.2 | (with_reducible refine Kd.zbe ?_ _) | (with_reducible refine Kd.zbc ?_ _) | (with_reducible refine Kd.zbt ?_))); (case aB => exact (by repeat (first | (with_reducible first | exact HB.out | apply zac | apply zaa | apply zaf) | exact HB.out))); (case aF => exact (fun k_ hk => ⟨Kd.fresh' (Kd.R_lt (by (with_reducible repeat (first | apply Kd.zaw | apply Kd.zax | apply Kd.zaE)); exact HO_6.out)) k_ hk, Kd.fresh' (Kd.R_lt (by (with_reducible repeat (first | apply Kd.zaw | apply Kd.zax | apply Kd.zaE)); exact HO_7.out)) k_ hk, Kd.fresh' (Kd.R_lt (by (with_reducible repeat (first | apply Kd.zaw | apply Kd.zax | apply Kd.zaE)); exact HO141.out)) k_ hk⟩)); (case aO => exact (by (with_reducible repeat (first | apply Kd.zaw | apply Kd.zax | apply Kd.zaE)); exact Kd.zbj HO145.out (fun _ hk => ⟨hk.1.1.2, ⟨hk.1.2, hk.2⟩⟩))); (case aS => exact (zao (by repeat (first | (with_reducible first | exact HB.out | apply zac | apply zaa | apply zaf) | exact HB.out)))); (case aL => have := LMc11.out; omega); intro v147 w21 ho hb hg hat; rw [← Ny146.out] at ho; have n0_ := Aside0.mk (Kd.zch (ok := (fun k_ => some k_ ≠ (.slice Ao15 x7_1.length co15 : Value).ownBlock ∧ some k_ ≠ (.slice Ao18 t139.length co18 : Value).ownBlock)) (by (with_reducible repeat (first | apply Kd.zaw | apply Kd.zax | apply Kd.zaE)); exact HO_6.out) hg hat); have n1_ := Aside0.mk (Kd.zch (ok := (fun k_ => some k_ ≠ (.slice Ao22 x6_1.length co22 : Value).ownBlock ∧ some k_ ≠ (.slice Ao18 t139.length co18 : Value).ownBlock)) (by (with_reducible repeat (first | apply Kd.zaw | apply Kd.zax | apply Kd.zaE)); exact HO_7.out) hg hat); have n2_ := Aside0.mk (Kd.zch (ok := (fun k_ => some k_ ≠ (.slice Ao22 x6_1.length co22 : Value).ownBlock ∧ some k_ ≠ (.slice Ao15 x7_1.length co15 : Value).ownBlock)) (by (with_reducible repeat (first | apply Kd.zaw | apply Kd.zax | apply Kd.zaE)); exact HO141.out) hg hat); have n3_ := Aside0.mk (hb); have n4_ := Aside0.mk (ho); clear HO_6; clear HO_7; clear HO141; clear HB; clear HO145; have HO_6 := n0_; have HO_7 := n1_; have HO141 := n2_; have HB := n3_; have HO148 := n4_; clear n0_ n1_ n2_ n3_ n4_; clear ho hb hg hat))
          go_roundg k1
          case measure => have := HK1.out; omega
          case rel => exact ⟨(y146), (t139), (wrap64 (x8_1 - 1)), (by first | rfl | (simp; done) | (simp [*]; done)), H', ⟨by have := HK1.out; omega⟩, ⟨by (with_reducible repeat (first | apply Kd.zaw | apply Kd.zax | apply Kd.zaE)); exact Kd.zbj HO148.out (fun _ hk => hk.2.2)⟩, ⟨by (with_reducible repeat (first | apply Kd.zaw | apply Kd.zax | apply Kd.zaE)); exact Kd.zbj HO141.out (fun _ hk => hk.2)⟩, ⟨by repeat (first | (with_reducible first | exact HB.out | apply zac | apply zaa | apply zaf) | exact HB.out)⟩⟩
         ·rw [if_neg c11] at H
          exact absurd H (by simp)
        ·replace c10 := Bool.eq_false_iff.mpr c10
         subst c10
         have H1 : ((zau.f k1 t139 l1).bind fun t149 => ((some (([!false] : List Bool) : List Bool)).bind fun y152 => (if y152.length + x6_1.length < 140737488355328 then (zav.l0 k1 l0 l1 (y152 ++ x6_1) t149 (wrap64 (x8_1 - 1))) else (none)))) = some (r1, r2) := by rw [if_neg (show ¬ (false = true) by decide)] at H; exact H
         clear H
         have H := H1
         clear H1
         replace H := Option.bind_eq_some_iff.mp H
         obtain ⟨t149, A230, H⟩ := H
         replace H : ((some (([!false] : List Bool) : List Bool)).bind fun y152 => (if y152.length + x6_1.length < 140737488355328 then (zav.l0 k1 l0 l1 (y152 ++ x6_1) t149 (wrap64 (x8_1 - 1))) else (none))) = some (r1, r2) := H
         have A23 := Aside0.mk A230
         clear A230
         obtain ⟨y152, hy152⟩ : ∃ y_ : List Bool, y_ = (([!false] : List Bool)) := ⟨_, rfl⟩
         replace H : (if y152.length + x6_1.length < 140737488355328 then (zav.l0 k1 l0 l1 (y152 ++ x6_1) t149 (wrap64 (x8_1 - 1))) else (none)) = some (r1, r2) := by first | (rw [hy152]; with_reducible exact H) | (have H2_ := (Option.bind_some _ _).symm.trans H; rw [hy152]; with_reducible exact H2_) | (have H2_ := (Option.bind_some _ _).symm.trans H; with_reducible exact H2_) | with_reducible exact H | (rw [hy152]; exact H) | exact H
         have Ny152 := Aside0.mk hy152
         clear hy152
         by_cases c24 : y152.length + x6_1.length < 140737488355328
         ·rw [if_pos c24] at H
          have LMc24 := Aside0.mk c24
          clear c24
          obtain ⟨y155, hy155⟩ : ∃ y_ : List Bool, y_ = (y152 ++ x6_1) := ⟨_, rfl⟩
          replace H : (zav.l0 k1 l0 l1 y155 t149 (wrap64 (x8_1 - 1))) = some (r1, r2) := by first | (rw [hy155]; with_reducible exact H) | (have H2_ := (Option.bind_some _ _).symm.trans H; rw [hy155]; with_reducible exact H2_) | (have H2_ := (Option.bind_some _ _).symm.trans H; with_reducible exact H2_) | with_reducible exact H | (rw [hy155]; exact H) | exact H
          have Ny155 := Aside0.mk hy155
          clear hy155
          have H' := Aside0.mk H
          clear H
          have p132 : 0 ≤ (x8_1 : Int) := of_decide_eq_true (by first | (with_reducible assumption) | assumption)
          have q132 : x8_1 < (l0.length : Int) := of_decide_eq_true (by first | (with_reducible assumption) | assumption)
          obtain ⟨ad132, e132, hx132_0⟩ := Kd.zcg HR0.out x8_1 p132 q132
          cases e132
          replace hx132_0 := (HB.out.cell (World.block_lt_of_cell? w _ hx132_0)).trans hx132_0
          replace p132 := eq_true p132
          replace q132 := eq_true q132
          go_wp2_with (first | ((with_reducible refine zaK (N := 24) rfl ?_); refine Kd.zeh Kd.bool _ 4 ?hg (N := 24) ?hd (xs := ([rdOf false l0 x8_1] : List Bool)) (inner := [.bool (rdOf false l0 x8_1)]) (ok := fun _ => True) (okp := fun _ => True) ?hr ?hp (fun _ hk => hk) trivial (Below.refl _ _) (Nat.le_refl _) (by simp) ?_; (case hd => rfl); (case hg => rfl); (case hr => first | (go_simp; done) | (go_simp; rfl)); (case hp => exact (Reps.one (show Kd.M Kd.bool _ _ _ (rdOf false l0 x8_1) [.bool (rdOf false l0 x8_1)] from rfl) (Reps.none _ _))); intro v134 w25 ho26 hb hg_ hnew_; clear hg_ hnew_; (first | rw [← Ny133.out] at ho26 | (simp only [Int.reduceToNat] at ho26; rw [← Ny133.out] at ho26)); have n0_ := Aside0.mk (Kd.zbG (by (with_reducible repeat (first | apply Kd.zaw | apply Kd.zax | apply Kd.zaE)); exact HO_6.out) (Kd.zbJ ho26) hb); have n1_ := Aside0.mk (Kd.zbG (by (with_reducible repeat (first | apply Kd.zaw | apply Kd.zax | apply Kd.zaE)); exact HO_7.out) (Kd.zbJ ho26) hb); have n2_ := Aside0.mk (Kd.zbF (Kd.zbU (Kd.zbU ho26 (Kd.R_lt (by (with_reducible repeat (first | apply Kd.zaw | apply Kd.zax | apply Kd.zaE)); exact HO_6.out))) (Kd.R_lt (by (with_reducible repeat (first | apply Kd.zaw | apply Kd.zax | apply Kd.zaE)); exact HO_7.out))) (zao (by repeat (first | (with_reducible first | exact HB.out | apply zac | apply zaa | apply zaf) | exact HB.out)))); have n3_ := Aside0.mk (zam (by repeat (first | (with_reducible first | exact HB.out | apply zac | apply zaa | apply zaf) | exact HB.out)) hb); clear HO_6; clear HO_7; clear HB; have HO_6 := n0_; have HO_7 := n1_; have HO135 := n2_; have HB := n3_; clear n0_ n1_ n2_ n3_; clear hb ho26; obtain ⟨Ao28, co28, eo28⟩ := Kd.zbx HO_7.out; subst eo28) | ((with_reducible refine zbs (b := .append) (xs := #[.tmp 24, .tmp 25]) rfl ?_); at_builtin; refine Kd.zbV Kd.bool (w0 := w) w.heap.size rfl (.tmp 24) (.tmp 25) 60 4 (.bool false) 1 rfl Tryd.underlying60 zcI rfl (by decide) (by omega) v134 y133 x7_1 _ _ _ (fun k_ => some k_ ≠ (u6 : Value).ownBlock ∧ some k_ ≠ (.slice Ao28 x7_1.length co28 : Value).ownBlock) (fun _ => False) rfl rfl ?aO ?aR (fun _ _ h => h) (fun _ h => h.elim) ?aF ?aB ?aS ?aL ?_; (case aR => repeat (first | exact (Kd.zbk HO_7.out).2.2 | (with_reducible refine Kd.zbe ?_ _) | (with_reducible refine Kd.zbc ?_ _) | (with_reducible refine Kd.zbt ?_))); (case aB => exact (by repeat (first | (with_reducible first | exact HB.out | apply zac | apply zaa | apply zaf) | exact HB.out))); (case aF => exact (fun k_ hk => ⟨Kd.fresh' (Kd.R_lt (by (with_reducible repeat (first | apply Kd.zaw | apply Kd.zax | apply Kd.zaE)); exact HO_6.out)) k_ hk, Kd.fresh' (Kd.R_lt (by (with_reducible repeat (first | apply Kd.zaw | apply Kd.zax | apply Kd.zaE)); exact HO_7.out)) k_ hk⟩)); (case aO => exact (by (with_reducible repeat (first | apply Kd.zaw | apply Kd.zax | apply Kd.zaE)); exact Kd.zbj HO135.out (fun _ hk => ⟨hk.1.2, hk.2⟩))); (case aS => exact (zao (by repeat (first | (with_reducible first | exact HB.out | apply zac | apply zaa | apply zaf) | exact HB.out)))); (case aL => have := LMc7.out; omega); intro v137 w27 ho hb hg hat; rw [← Ny136.out] at ho; have n0_ := Aside0.mk (Kd.zch (ok := (fun k_ => some k_ ≠ (.slice Ao28 x7_1.length co28 : Value).ownBlock)) (by (with_reducible repeat (first | apply Kd.zaw | apply Kd.zax | apply Kd.zaE)); exact HO_6.out) hg hat); have n1_ := Aside0.mk (Kd.zch (ok := (fun k_ => some k_ ≠ (u6 : Value).ownBlock)) (by (with_reducible repeat (first | apply Kd.zaw | apply Kd.zax | apply Kd.zaE)); exact HO_7.out) hg hat); have n2_ := Aside0.mk (hb); have n3_ := Aside0.mk (ho); clear HO_6; clear HO_7; clear HB; clear HO135; have HO_6 := n0_; have HO_7 := n1_; have HB := n2_; have HO138 := n3_; clear n0_ n1_ n2_ n3_; clear ho hb hg hat; obtain ⟨Ao29, co29, eo29⟩ := Kd.zbx HO138.out; subst eo29) | ((with_reducible refine zat (f := 72) rfl ?_); refine za9 (some 27) rfl rfl Tryd.func72 (by kernel_rfl) rfl #[.slice Ao29 y136.length co29] rfl (by (try simp only [List.map_toArray, List.map_cons, List.map_nil]); first | done | rfl | (simp only [List.length_drop, List.length_take]; rfl)) ?_; (with_reducible refine (zaF.calls k1 (fun k_ => some k_ = (.slice Ao29 y136.length co29 : Value).ownBlock) (.slice Ao29 y136.length co29) y136 t139 w _ ?side1 ?side2 A8.out).mono ?_); (case side1 => repeat (first | (with_reducible first | exact HB.out | apply zac | apply zaa | apply zaf) | exact HB.out)); (case side2 => exact Kd.zcB rfl HO138.out); rintro e w30 ⟨v140, rfl, ho0, hb, hkp⟩; refine ⟨_, rfl, ?_⟩; have n0_ := Aside0.mk (Kd.zbj (ok' := fun k_ => some k_ ≠ (.slice Ao28 x7_1.length co28 : Value).ownBlock ∧ some k_ ≠ (v140 : Value).ownBlock) (Kd.zcR (HO_6.out) hkp (fun k_ hk_ hs_ => (hk_.2) hs_)) (fun k_ hk_ => ⟨hk_.1.1, fun e_ => Or.elim (ho0.1 k_ e_.symm) (fun hs_ => hk_.2.1 hs_) (fun hn_ => Nat.not_le.2 hk_.2.2 hn_)⟩)); have n1_ := Aside0.mk (Kd.zbj (ok' := fun k_ => some k_ ≠ (u6 : Value).ownBlock ∧ some k_ ≠ (v140 : Value).ownBlock) (Kd.zcR (HO_7.out) hkp (fun k_ hk_ hs_ => (hk_.2) hs_)) (fun k_ hk_ => ⟨hk_.1.1, fun e_ => Or.elim (ho0.1 k_ e_.symm) (fun hs_ => hk_.2.1 hs_) (fun hn_ => Nat.not_le.2 hk_.2.2 hn_)⟩)); have n2_ := Aside0.mk (Kd.zbj (ok' := fun k_ => some k_ ≠ (u6 : Value).ownBlock ∧ some k_ ≠ (.slice Ao28 x7_1.length co28 : Value).ownBlock) ho0 (fun k_ hk_ => ⟨Or.elim hk_ (fun hs_ => fun e_ => (((HO_6.out).1 k_ e_.symm).2) hs_) (fun hn_ => (Kd.fresh' (Kd.R_lt (by (with_reducible repeat (first | apply Kd.zaw | apply Kd.zax | apply Kd.zaE)); exact HO_6.out)) k_ hn_)), Or.elim hk_ (fun hs_ => fun e_ => (((HO_7.out).1 k_ e_.symm).2) hs_) (fun hn_ => (Kd.fresh' (Kd.R_lt (by (with_reducible repeat (first | apply Kd.zaw | apply Kd.zax | apply Kd.zaE)); exact HO_7.out)) k_ hn_))⟩)); have n3_ := Aside0.mk (hb); clear HO_6; clear HO_7; clear HB; clear HO138; have HO_6 := n0_; have HO_7 := n1_; have HO141 := n2_; have HB := n3_; clear n0_ n1_ n2_ n3_; (try clear hb); (try clear hkp); (try clear ho0); obtain ⟨Ao31, co31, eo31⟩ := Kd.zbx HO141.out; subst eo31) | ((with_reducible refine zat (f := 70) rfl ?_); refine za9 (some 30) rfl rfl Tryd.func70 (by kernel_rfl) rfl #[.slice Ao31 t139.length co31, .slice A1 l1.length c1] rfl (by (try simp only [List.map_toArray, List.map_cons, List.map_nil]); first | done | rfl | (simp only [List.length_drop, List.length_take]; rfl)) ?_; (with_reducible refine (zaY.calls k1 _ _ t139 _ _ l1 false _ ?side1 ?side2 ?side3 ?side4 A9.out).mono ?_); (case side1 => repeat (first | exact (Kd.zbk HO141.out).2.2 | (with_reducible refine Kd.zbe ?_ _) | (with_reducible refine Kd.zbc ?_ _) | (with_reducible refine Kd.zbt ?_))); (case side2 => exact (Kd.zbk HO141.out).2.1); (case side3 => repeat (first | exact (Kd.zbd HR1.out HB.out) | (with_reducible refine Kd.zbe ?_ _) | (with_reducible refine Kd.zbc ?_ _) | (with_reducible refine Kd.zbt ?_))); (case side4 => exact HC1.out); rintro e w' ⟨rfl, ⟨nd, rfl⟩⟩; refine ⟨_, rfl, ?_⟩) | ((with_reducible refine zat (f := 71) rfl ?_); refine za9 (some 35) rfl rfl Tryd.func71 (by kernel_rfl) rfl #[.slice Ao31 t139.length co31, .slice A1 l1.length c1] rfl (by (try simp only [List.map_toArray, List.map_cons, List.map_nil]); first | done | rfl | (simp only [List.length_drop, List.length_take]; rfl)) ?_; (with_reducible refine (zau.calls k1 _ _ t139 _ _ l1 t149 _ ?side1 ?side2 ?side3 ?side4 A23.out).mono ?_); (case side1 => repeat (first | exact (Kd.zbk HO141.out).2.2 | (with_reducible refine Kd.zbe ?_ _) | (with_reducible refine Kd.zbc ?_ _) | (with_reducible refine Kd.zbt ?_))); (case side2 => exact (Kd.zbk HO141.out).2.1); (case side3 => repeat (first | exact (Kd.zbd HR1.out (by repeat (first | (with_reducible first | exact HB.out | apply zac | apply zaa | apply zaf) | exact HB.out))) | (with_reducible refine Kd.zbe ?_ _) | (with_reducible refine Kd.zbc ?_ _) | (with_reducible refine Kd.zbt ?_))); (case side4 => exact HC1.out); rintro e w32 ⟨v150, rfl, ho0, hb⟩; refine ⟨_, rfl, ?_⟩; have n0_ := Aside0.mk (Kd.zbG (by (with_reducible repeat (first | apply Kd.zaw | apply Kd.zax | apply Kd.zaE)); exact HO_6.out) (Kd.zbJ ho0) hb); have n1_ := Aside0.mk (Kd.zbG (by (with_reducible repeat (first | apply Kd.zaw | apply Kd.zax | apply Kd.zaE)); exact HO_7.out) (Kd.zbJ ho0) hb); have n2_ := Aside0.mk (Kd.zbG (by (with_reducible repeat (first | apply Kd.zaw | apply Kd.zax | apply Kd.zaE)); exact HO141.out) (Kd.zbJ ho0) hb); have n3_ := Aside0.mk (Kd.zbF (Kd.zbU (Kd.zbU (Kd.zbU ho0 (Kd.R_lt (by (with_reducible repeat (first | apply Kd.zaw | apply Kd.zax | apply Kd.zaE)); exact HO_6.out))) (Kd.R_lt (by (with_reducible repeat (first | apply Kd.zaw | apply Kd.zax | apply Kd.zaE)); exact HO_7.out))) (Kd.R_lt (by (with_reducible repeat (first | apply Kd.zaw | apply Kd.zax | apply Kd.zaE)); exact HO141.out))) (zao (by repeat (first | (with_reducible first | exact HB.out | apply zac | apply zaa | apply zaf) | exact HB.out)))); have n4_ := Aside0.mk (zam (by repeat (first | (with_reducible first | exact HB.out | apply zac | apply zaa | apply zaf) | exact HB.out)) hb); clear HO_6; clear HO_7; clear HO141; clear HB; have HO_6 := n0_; have HO_7 := n1_; have HO141 := n2_; have HO151 := n3_; have HB := n4_; clear n0_ n1_ n2_ n3_ n4_; (try clear hb); (try clear hb2); (try clear hk); (try clear hi); (try clear ho0)) | ((with_reducible refine zaK (N := 37) rfl ?_); refine Kd.zeh Kd.bool _ 4 ?hg (N := 37) ?hd (xs := ([!false] : List Bool)) (inner := [.bool (!false)]) (ok := fun _ => True) (okp := fun _ => True) ?hr ?hp (fun _ hk => hk) trivial (Below.refl _ _) (Nat.le_refl _) (by simp) ?_; (case hd => rfl); (case hg => rfl); (case hr => first | (go_simp; done) | (go_simp; rfl)); (case hp => exact (Reps.one (show Kd.M Kd.bool _ _ _ (!false) [.bool (!false)] from rfl) (Reps.none _ _))); intro v153 w33 ho34 hb hg_ hnew_; clear hg_ hnew_; (first | rw [← Ny152.out] at ho34 | (simp only [Int.reduceToNat] at ho34; rw [← Ny152.out] at ho34)); have n0_ := Aside0.mk (Kd.zbG (by (with_reducible repeat (first | apply Kd.zaw | apply Kd.zax | apply Kd.zaE)); exact HO_6.out) (Kd.zbJ ho34) hb); have n1_ := Aside0.mk (Kd.zbG (by (with_reducible repeat (first | apply Kd.zaw | apply Kd.zax | apply Kd.zaE)); exact HO_7.out) (Kd.zbJ ho34) hb); have n2_ := Aside0.mk (Kd.zbG (by (with_reducible repeat (first | apply Kd.zaw | apply Kd.zax | apply Kd.zaE)); exact HO141.out) (Kd.zbJ ho34) hb); have n3_ := Aside0.mk (Kd.zbG (by (with_reducible repeat (first | apply Kd.zaw | apply Kd.zax | apply Kd.zaE)); exact HO151.out) (Kd.zbJ ho34) hb); have n4_ := Aside0.mk (Kd.zbF (Kd.zbU (Kd.zbU (Kd.zbU (Kd.zbU ho34 (Kd.R_lt (by (with_reducible repeat (first | apply Kd.zaw | apply Kd.zax | apply Kd.zaE)); exact HO_6.out))) (Kd.R_lt (by (with_reducible repeat (first | apply Kd.zaw | apply Kd.zax | apply Kd.zaE)); exact HO_7.out))) (Kd.R_lt (by (with_reducible repeat (first | apply Kd.zaw | apply Kd.zax | apply Kd.zaE)); exact HO141.out))) (Kd.R_lt (by (with_reducible repeat (first | apply Kd.zaw | apply Kd.zax | apply Kd.zaE)); exact HO151.out))) (zao (by repeat (first | (with_reducible first | exact HB.out | apply zac | apply zaa | apply zaf) | exact HB.out)))); have n5_ := Aside0.mk (zam (by repeat (first | (with_reducible first | exact HB.out | apply zac | apply zaa | apply zaf) | exact HB.out)) hb); clear HO_6; clear HO_7; clear HO141; clear HO151; clear HB; have HO_6 := n0_; have HO_7 := n1_; have HO141 := n2_; have HO151 := n3_; have HO154 := n4_; have HB := n5_; clear n0_ n1_ n2_ n3_ n4_ n5_; clear hb ho34; obtain ⟨Ao36, co36, eo36⟩ := Kd.zbx HO_6.out; subst eo36) | ((with_reducible refine zbs (b := .append) (xs := #[.tmp 37, .tmp 38]) rfl ?_); at_builtin; refine Kd.zbV Kd.bool (w0 := w) w.heap.size rfl (.tmp 37) (.tmp 38) 60 4 (.bool false) 1 rfl Tryd.underlying60 zcI rfl (by decide) (by omega) v153 y152 x6_1 _ _ _ (fun k_ => some k_ ≠ (.slice Ao36 x6_1.length co36 : Value).ownBlock ∧ some k_ ≠ (.slice Ao28 x7_1.length co28 : Value).ownBlock ∧ some k_ ≠ (.slice Ao31 t139.length co31 : Value).ownBlock ∧ some k_ ≠ (v150 : Value).ownBlock) (fun _ => False) rfl rfl ?aO ?aR (fun _ _ h => h) (fun _ h => h.elim) ?aF ?aB ?aS ?aL ?_; (case aR => repeat (first | exact (Kd.zbk HO_6.out).2.2 | (with_reducible refine Kd.zbe ?_ _) | (with_reducible refine Kd.zbc ?_ _) | (with_reducible refine Kd.zbt ?_))); (case aB => exact (by repeat (first | (with_reducible first | exact HB.out | apply zac | apply zaa | apply zaf) | exact HB.out))); (case aF => exact (fun k_ hk => ⟨Kd.fresh' (Kd.R_lt (by (with_reducible repeat (first | apply Kd.zaw | apply Kd.zax | apply Kd.zaE)); exact HO_6.out)) k_ hk, Kd.fresh' (Kd.R_lt (by (with_reducible repeat (first | apply Kd.zaw | apply Kd.zax | apply Kd.zaE)); exact HO_7.out)) k_ hk, Kd.fresh' (Kd.R_lt (by (with_reducible repeat (first | apply Kd.zaw | apply Kd.zax | apply Kd.zaE)); exact HO141.out)) k_ hk, Kd.fresh' (Kd.R_lt (by (with_reducible repeat (first | apply Kd.zaw | apply Kd.zax | apply Kd.zaE)); exact HO151.out)) k_ hk⟩)); (case aO => exact (by (with_reducible repeat (first | apply Kd.zaw | apply Kd.zax | apply Kd.zaE)); exact Kd.zbj HO154.out (fun _ hk => ⟨hk.1.1.1.2, ⟨hk.1.1.2, ⟨hk.1.2, hk.2⟩⟩⟩))); (case aS => exact (zao (by repeat (first | (with_reducible first | exact HB.out | apply zac | apply zaa | apply zaf) | exact HB.out)))); (case aL => have := LMc24.out; omega); intro v156 w35 ho hb hg hat; rw [← Ny155.out] at ho; have n0_ := Aside0.mk (Kd.zch (ok := (fun k_ => some k_ ≠ (.slice Ao28 x7_1.length co28 : Value).ownBlock ∧ some k_ ≠ (.slice Ao31 t139.length co31 : Value).ownBlock ∧ some k_ ≠ (v150 : Value).ownBlock)) (by (with_reducible repeat (first | apply Kd.zaw | apply Kd.zax | apply Kd.zaE)); exact Kd.zbj HO_6.out (fun _ hk => ⟨⟨hk.1.1.1, ⟨hk.1.1.2, hk.1.2⟩⟩, hk.2⟩)) hg hat); have n1_ := Aside0.mk (Kd.zch (ok := (fun k_ => some k_ ≠ (.slice Ao36 x6_1.length co36 : Value).ownBlock ∧ some k_ ≠ (.slice Ao31 t139.length co31 : Value).ownBlock ∧ some k_ ≠ (v150 : Value).ownBlock)) (by (with_reducible repeat (first | apply Kd.zaw | apply Kd.zax | apply Kd.zaE)); exact Kd.zbj HO_7.out (fun _ hk => ⟨⟨hk.1.1.1, ⟨hk.1.1.2, hk.1.2⟩⟩, hk.2⟩)) hg hat); have n2_ := Aside0.mk (Kd.zch (ok := (fun k_ => some k_ ≠ (.slice Ao36 x6_1.length co36 : Value).ownBlock ∧ some k_ ≠ (.slice Ao28 x7_1.length co28 : Value).ownBlock ∧ some k_ ≠ (v150 : Value).ownBlock)) (by (with_reducible repeat (first | apply Kd.zaw | apply Kd.zax | apply Kd.zaE)); exact Kd.zbj HO141.out (fun _ hk => ⟨⟨hk.1.1.1, ⟨hk.1.1.2, hk.1.2⟩⟩, hk.2⟩)) hg hat); have n3_ := Aside0.mk (Kd.zch (ok := (fun k_ => some k_ ≠ (.slice Ao36 x6_1.length co36 : Value).ownBlock ∧ some k_ ≠ (.slice Ao28 x7_1.length co28 : Value).ownBlock ∧ some k_ ≠ (.slice Ao31 t139.length co31 : Value).ownBlock)) (by (with_reducible repeat (first | apply Kd.zaw | apply Kd.zax | apply Kd.zaE)); exact Kd.zbj HO151.out (fun _ hk => ⟨⟨hk.1.1.1.2, ⟨hk.1.1.2, hk.1.2⟩⟩, hk.2⟩)) hg hat); have n4_ := Aside0.mk (hb); have n5_ := Aside0.mk (ho); clear HO_6; clear HO_7; clear HO141; clear HO151; clear HB; clear HO154; have HO_6 := n0_; have HO_7 := n1_; have HO141 := n2_; have HO151 := n3_; have HB := n4_; have HO157 := n5_; clear n0_ n1_ n2_ n3_ n4_ n5_; clear ho hb hg hat))
          go_roundg k1
          case measure => have := HK1.out; omega
          case rel => exact ⟨(y155), (t149), (wrap64 (x8_1 - 1)), (by first | rfl | (simp; done) | (simp [*]; done)), H', ⟨by have := HK1.out; omega⟩, ⟨by (with_reducible repeat (first | apply Kd.zaw | apply Kd.zax | apply Kd.zaE)); exact Kd.zbj HO157.out (fun _ hk => hk.2.2.2)⟩, ⟨by (with_reducible repeat (first | apply Kd.zaw | apply Kd.zax | apply Kd.zaE)); exact Kd.zbj HO151.out (fun _ hk => hk.2)⟩, ⟨by repeat (first | (with_reducible first | exact HB.out | apply zac | apply zaa | apply zaf) | exact HB.out)⟩⟩
         ·rw [if_neg c24] at H
          exact absurd H (by simp)
       ·rw [if_neg c7] at H
        exact absurd H (by simp)
      ·rw [if_neg c6] at H
       exact absurd H (by simp)
     ·rw [if_neg c5] at H
      exact absurd H (by simp)
    ·rw [if_neg c4] at H
     have c4b0 : decide (0 ≤ x8_1) = false := decide_eq_false c4
     clear c4
     replace H := Option.bind_eq_some_iff.mp H
     obtain ⟨t129, A370, H⟩ := H
     replace H : (some (t129, x7_1)) = some (r1, r2) := H
     have A37 := Aside0.mk A370
     clear A370
     simp only [Option.some.injEq, Prod.mk.injEq] at H
     obtain ⟨rfl, rfl⟩ := H
     obtain ⟨Ao38, co38, eo38⟩ := Kd.zbx HO_6.out
     subst eo38
     go_wp2_with (first | ((with_reducible refine zat (f := 72) rfl ?_); refine za9 (some 41) rfl rfl Tryd.func72 (by kernel_rfl) rfl #[.slice Ao38 x6_1.length co38] rfl (by (try simp only [List.map_toArray, List.map_cons, List.map_nil]); first | done | rfl | (simp only [List.length_drop, List.length_take]; rfl)) ?_; (with_reducible refine (zaF.calls k1 (fun k_ => some k_ = (.slice Ao38 x6_1.length co38 : Value).ownBlock) (.slice Ao38 x6_1.length co38) x6_1 t129 w _ ?side1 ?side2 A37.out).mono ?_); (case side1 => repeat (first | (with_reducible first | exact HB.out | apply zac | apply zaa | apply zaf) | exact HB.out)); (case side2 => exact Kd.zcB rfl HO_6.out); rintro e w39 ⟨v130, rfl, ho0, hb, hkp⟩; refine ⟨_, rfl, ?_⟩; have n0_ := Aside0.mk (Kd.zbj (ok' := fun k_ => some k_ ≠ (v130 : Value).ownBlock) (Kd.zcR (HO_7.out) hkp (fun k_ hk_ hs_ => (hk_) hs_)) (fun k_ hk_ => fun e_ => Or.elim (ho0.1 k_ e_.symm) (fun hs_ => hk_.2.1 hs_) (fun hn_ => Nat.not_le.2 hk_.2.2 hn_))); have n1_ := Aside0.mk (Kd.zbj (ok' := fun k_ => some k_ ≠ (u7 : Value).ownBlock) ho0 (fun k_ hk_ => Or.elim hk_ (fun hs_ => fun e_ => (((HO_7.out).1 k_ e_.symm)) hs_) (fun hn_ => (Kd.fresh' (Kd.R_lt (by (with_reducible repeat (first | apply Kd.zaw | apply Kd.zax | apply Kd.zaE)); exact HO_7.out)) k_ hn_)))); have n2_ := Aside0.mk (hb); clear HO_7; clear HB; clear HO_6; have HO_7 := n0_; have HO131 := n1_; have HB := n2_; clear n0_ n1_ n2_; (try clear hb); (try clear hkp); (try clear ho0)))
     go_ret2
     exact ⟨_, _, by first | rfl | (simp [zas, zar] <;> rfl) | (simp [*, zas, zar] <;> rfl), by (with_reducible repeat (first | apply Kd.zaw | apply Kd.zax | apply Kd.zaE)); exact HO131.out, by (with_reducible repeat (first | apply Kd.zaw | apply Kd.zax | apply Kd.zaE)); exact HO_7.out, by repeat (first | (with_reducible first | exact HB.out | apply zac | apply zaa | apply zaf) | exact HB.out)⟩
def zaR.l0 : Nat → List Bool → List Bool → Option (List Bool)
 | 0, _, _ => none
 | k + 1, x0, x1 => if (x1.length : Int) > 0 then ((zav.f k x0 x1).bind fun bt158 => (zaR.l0 k x1 bt158.2)) else (some x0)
def zaR.f (k : Nat) (l0 : List Bool) (l1 : List Bool) : Option (List Bool) := zaR.l0 k l0 l1
set_option maxHeartbeats 8000000 in
set_option maxRecDepth 100000 in
theorem zaR.calls (k : Nat) (P0_ : Nat → Prop) (A0 : Option Addr) (c0 : Nat) (l0 : List Bool) (P1_ : Nat → Prop) (A1 : Option Addr) (c1 : Nat) (l1 : List Bool) (r : List Bool) (w : World) (hs0 : Kd.V Kd.bool 4 w w.heap.size (fun k_ => P0_ k_) (.slice A0 l0.length c0) l0) (hs1 : Kd.V Kd.bool 4 w w.heap.size (fun k_ => P1_ k_) (.slice A1 l1.length c1) l1) (h : zaR.f k l0 l1 = some r) :
  Calls Tryd.prog 50 #[.slice A0 l0.length c0, .slice A1 l1.length c1] w fun e w' => ∃ v0_ : Value, e = .returned (v0_) ∧ Kd.V Kd.bool 4 w' w.heap.size (fun k_ => ((P0_ k_ ∨ P1_ k_) ∨ w.heap.size ≤ k_)) v0_ r ∧ Below w.heap.size w w' := by
 have HO0 := Aside0.mk (show Kd.V Kd.bool 4 w w.heap.size (fun k_ => ((P0_ k_ ∨ P1_ k_) ∨ w.heap.size ≤ k_)) (.slice A0 l0.length c0) l0 from Kd.zcQ hs0 (fun k_ hk => .inl (.inl hk)))
 have HO1 := Aside0.mk (show Kd.V Kd.bool 4 w w.heap.size (fun k_ => ((P0_ k_ ∨ P1_ k_) ∨ w.heap.size ≤ k_)) (.slice A1 l1.length c1) l1 from Kd.zcQ hs1 (fun k_ hk => .inl (.inr hk)))
 have HB := Aside0.mk (Below.refl w.heap.size w)
 have H : (zaR.l0 k l0 l1) = some r := h
 clear h
 have H' := Aside0.mk H
 clear H
 go_enter Tryd.func50, Tryd.ntmps50
 go_wp2
 go_loopg [0, 1] k (fun kq v0 v1 w' => ∃ (x0_1 : List Bool) (x1_1 : List Bool), Aside0 (zaR.l0 kq x0_1 x1_1 = some r) ∧ Aside0 (kq ≤ k) ∧ Aside0 (Kd.V Kd.bool 4 w' w.heap.size (fun k_ => ((P0_ k_ ∨ P1_ k_) ∨ w.heap.size ≤ k_)) v0 x0_1) ∧ Aside0 (Kd.V Kd.bool 4 w' w.heap.size (fun k_ => ((P0_ k_ ∨ P1_ k_) ∨ w.heap.size ≤ k_)) v1 x1_1) ∧ Aside0 (Below w.heap.size w w'))
 case atStart => exact ⟨(l0), (l1), H', ⟨Nat.le_refl _⟩, ⟨by (with_reducible repeat (first | apply Kd.zcK | apply Kd.zcJ | apply Kd.zdc)); exact HO0.out⟩, ⟨by (with_reducible repeat (first | apply Kd.zcK | apply Kd.zcJ | apply Kd.zdc)); exact HO1.out⟩, ⟨by repeat (first | (with_reducible first | exact HB.out | apply zac | apply zaa | apply zaf) | exact HB.out)⟩⟩
 case round =>
  clear H'
  (try clear c1); (try clear p2)
  obtain ⟨x0_1, x1_1, HA, HK1, HO_0, HO_1, HB⟩ := hrel
  cases gk with
  | zero => exact absurd HA.out (by simp [zaR.l0])
  | succ k1 =>
   have H := HA.out
   clear HA
   simp only [zaR.l0] at H
   by_cases c3 : (x1_1.length : Int) > 0
   ·rw [if_pos c3] at H
    have c3b0 : decide (0 < (x1_1.length : Int)) = true := decide_eq_true c3
    have c3b1 : decide (0 < x1_1.length) = true := decide_eq_true (by omega)
    clear c3
    replace H := Option.bind_eq_some_iff.mp H
    obtain ⟨⟨t158, t159⟩, A40, H⟩ := H
    replace H : (zaR.l0 k1 x1_1 t159) = some r := H
    have A4 := Aside0.mk A40
    clear A40
    have H' := Aside0.mk H
    clear H
    obtain ⟨Ao5, co5, eo5⟩ := Kd.zdD HO_1.out
    subst eo5
    obtain ⟨Ao6, co6, eo6⟩ := Kd.zdD HO_0.out
    subst eo6
    go_wp2_with (first | ((with_reducible refine zat (f := 67) rfl ?_); refine za9 (some 13) rfl rfl Tryd.func67 (by kernel_rfl) rfl #[.slice Ao6 x0_1.length co6, .slice Ao5 x1_1.length co5] rfl (by (try simp only [List.map_toArray, List.map_cons, List.map_nil]); first | done | rfl | (simp only [List.length_drop, List.length_take]; rfl)) ?_; (with_reducible refine (zav.calls k1 _ _ x0_1 _ _ x1_1 t158 t159 _ ?side1 ?side2 ?side3 ?side4 A4.out).mono ?_); (case side1 => repeat (first | exact (Kd.zct HO_0.out).2.2 | (with_reducible refine Kd.zbe ?_ _) | (with_reducible refine Kd.zbc ?_ _) | (with_reducible refine Kd.zbt ?_))); (case side2 => exact (Kd.zct HO_0.out).2.1); (case side3 => repeat (first | exact (Kd.zct HO_1.out).2.2 | (with_reducible refine Kd.zbe ?_ _) | (with_reducible refine Kd.zbc ?_ _) | (with_reducible refine Kd.zbt ?_))); (case side4 => exact (Kd.zct HO_1.out).2.1); rintro e w7 ⟨v160, v162, rfl, ho0, ho1, hb⟩; refine ⟨_, rfl, ?_⟩; have n0_ := Aside0.mk (Kd.zcQ (Kd.zdb (Kd.zdb (Kd.zgN (by (with_reducible repeat (first | apply Kd.zcK | apply Kd.zcJ | apply Kd.zdc)); exact HO_0.out) hb) (Kd.zbJ ho0)) (Kd.zbJ ho1)) (fun _ h_ => h_.1)); have n1_ := Aside0.mk (Kd.zcQ (Kd.zdb (Kd.zdb (Kd.zgN (by (with_reducible repeat (first | apply Kd.zcK | apply Kd.zcJ | apply Kd.zdc)); exact HO_1.out) hb) (Kd.zbJ ho0)) (Kd.zbJ ho1)) (fun _ h_ => h_.1)); have n2_ := Aside0.mk (Kd.zbF (Kd.zg2 (M := fun k_ => (w.heap.size ≤ k_)) ho0 (zao (by repeat (first | (with_reducible first | exact HB.out | apply zac | apply zaa | apply zaf) | exact HB.out))) (fun k_ h_ => h_)) (zao (by repeat (first | (with_reducible first | exact HB.out | apply zac | apply zaa | apply zaf) | exact HB.out)))); have n3_ := Aside0.mk (Kd.zbF (Kd.zg2 (M := fun k_ => (w.heap.size ≤ k_)) ho1 (zao (by repeat (first | (with_reducible first | exact HB.out | apply zac | apply zaa | apply zaf) | exact HB.out))) (fun k_ h_ => h_)) (zao (by repeat (first | (with_reducible first | exact HB.out | apply zac | apply zaa | apply zaf) | exact HB.out)))); have n4_ := Aside0.mk (zam (by repeat (first | (with_reducible first | exact HB.out | apply zac | apply zaa | apply zaf) | exact HB.out)) hb); clear HO_0; clear HO_1; clear HB; have HO_0 := n0_; have HO_1 := n1_; have HO161 := n2_; have HO163 := n3_; have HB := n4_; clear n0_ n1_ n2_ n3_ n4_; (try clear hb); (try clear hb2); (try clear hk); (try clear hi); (try clear ho0); (try clear ho1)))
    go_roundg k1
    case measure => have := HK1.out; omega
    case rel => exact ⟨(x1_1), (t159), H', ⟨by have := HK1.out; omega⟩, ⟨by (with_reducible repeat (first | apply Kd.zcK | apply Kd.zcJ | apply Kd.zdc)); exact Kd.zcQ HO_1.out (fun _ hk => hk.1.1)⟩, ⟨Kd.zcQ (Kd.R_V (by (with_reducible repeat (first | apply Kd.zaw | apply Kd.zax | apply Kd.zaE)); exact Kd.zbj HO163.out (fun _ hk => hk.1))) (fun k_ hk => by first | exact ⟨(.inr (hk.1)), hk.2⟩ | exact (.inr (hk)))⟩, ⟨by repeat (first | (with_reducible first | exact HB.out | apply zac | apply zaa | apply zaf) | exact HB.out)⟩⟩
   ·rw [if_neg c3] at H
    have c3b0 : decide (0 < (x1_1.length : Int)) = false := decide_eq_false c3
    have c3b1 : decide (0 < x1_1.length) = false := decide_eq_false (by omega)
    clear c3
    obtain rfl := Option.some.inj H
    obtain ⟨Ao8, co8, eo8⟩ := Kd.zdD HO_1.out
    subst eo8
    go_wp2
    go_ret
    exact ⟨_, by first | rfl | (simp [zas, zar] <;> rfl) | (simp [*, zas, zar] <;> rfl), by (with_reducible repeat (first | apply Kd.zcK | apply Kd.zcJ | apply Kd.zdc)); exact HO_0.out, by repeat (first | (with_reducible first | exact HB.out | apply zac | apply zaa | apply zaf) | exact HB.out)⟩
end Go.Proofs.YtijhnmbegceonaaDoor.PRef
namespace Go.Proofs.YtijhnmbegceonaaDoor.PRef
open Go.RowKit Go.Proofs.YtijhnmbegceonaaDoorW.PrintWords Go.Proofs.YtijhnmbegceonaaDoorW.PrintLast Go.Proofs.YtijhnmbegceonaaDoorW.PrintMore
attribute [local go_sem] zbr zbp zbz zby zbh zbg zbq zbo
set_option linter.unusedVariables false
set_option linter.unusedSimpArgs false
mutual
def zaq.l0 : Nat → List Bool → List Bool → List Bool → Int → Int → Option (List Bool)
 | 0, _, _, _, _, _ => none
 | k + 1, x0, x1, x5, x6, x7 => if x7 < (x0.length : Int) then (zaq.j1 k x0 x1 x5 x6 x7 true) else (if x7 < (x1.length : Int) then (zaq.j1 k x0 x1 x5 x6 x7 true) else (zaq.j1 k x0 x1 x5 x6 x7 (decide (x6 > 0))))
def zaq.j1 : Nat → List Bool → List Bool → List Bool → Int → Int → Bool → Option (List Bool)
 | 0, _, _, _, _, _, _ => none
 | k + 1, x0, x1, x5, x6, x7, x21 => if x21 = true then ((zaO.f x0 x7).bind fun t167 => (if t167 = true then ((zaO.f x1 x7).bind fun t168 => (if t168 = true then (if x5.length < 140737488355328 then (zaq.l0 k x0 x1 (x5 ++ [((Int.tmod (wrap64 ((wrap64 (x6 + 1)) + 1)) 2) == 1)]) (wrap64 (Int.tdiv (wrap64 ((wrap64 (x6 + 1)) + 1)) 2)) (wrap64 (x7 + 1))) else (none)) else (if x5.length < 140737488355328 then (zaq.l0 k x0 x1 (x5 ++ [((Int.tmod (wrap64 (x6 + 1)) 2) == 1)]) (wrap64 (Int.tdiv (wrap64 (x6 + 1)) 2)) (wrap64 (x7 + 1))) else (none)))) else ((zaO.f x1 x7).bind fun t175 => (if t175 = true then (if x5.length < 140737488355328 then (zaq.l0 k x0 x1 (x5 ++ [((Int.tmod (wrap64 (x6 + 1)) 2) == 1)]) (wrap64 (Int.tdiv (wrap64 (x6 + 1)) 2)) (wrap64 (x7 + 1))) else (none)) else (if x5.length < 140737488355328 then (zaq.l0 k x0 x1 (x5 ++ [((Int.tmod x6 2) == 1)]) (wrap64 (Int.tdiv x6 2)) (wrap64 (x7 + 1))) else (none)))))) else ((zaF.f k x5).bind fun t164 => (some t164))
end
def zaq.f (k : Nat) (l0 : List Bool) (l1 : List Bool) : Option (List Bool) := zaq.l0 k l0 l1 ([] : List Bool) 0 0
set_option maxHeartbeats 8000000 in
set_option maxRecDepth 100000 in
theorem zaq.calls (k : Nat) (A0 : Option Addr) (c0 : Nat) (l0 : List Bool) (A1 : Option Addr) (c1 : Nat) (l1 : List Bool) (r : List Bool) (w : World) (hr0 : Kd.C Kd.bool w A0 l0.length l0) (hc0 : l0.length ≤ c0) (hr1 : Kd.C Kd.bool w A1 l1.length l1) (hc1 : l1.length ≤ c1) (h : zaq.f k l0 l1 = some r) :
  Calls Tryd.prog 69 #[.slice A0 l0.length c0, .slice A1 l1.length c1] w fun e w' => ∃ v0_ : Value, e = .returned (v0_) ∧ Kd.R Kd.bool 4 w' w.heap.size (fun _ => True) v0_ r ∧ Below w.heap.size w w' := by
 have HR0 := Aside0.mk hr0
 have HC0 := Aside0.mk hc0
 clear hr0 hc0
 have HR1 := Aside0.mk hr1
 have HC1 := Aside0.mk hc1
 clear hr1 hc1
 have HB := Aside0.mk (Below.refl w.heap.size w)
 have H : (zaq.l0 k l0 l1 ([] : List Bool) 0 0) = some r := h
 clear h
 have H' := Aside0.mk H
 clear H
 go_enter Tryd.func69, Tryd.ntmps69
 go_wp2
 go_loopg [5, 6, 7] k (fun kq v5 v6 v7 w' => ∃ (x5_1 : List Bool) (x6_1 : Int) (x7_1 : Int), v6 = .int .i64 x6_1 ∧ v7 = .int .i64 x7_1 ∧ Aside0 (zaq.l0 kq l0 l1 x5_1 x6_1 x7_1 = some r) ∧ Aside0 (kq ≤ k) ∧ Aside0 (Kd.R Kd.bool 4 w' w.heap.size (fun _ => True) v5 x5_1) ∧ Aside0 (Below w.heap.size w w'))
 case atStart => exact ⟨(([] : List Bool)), (0), (0), (by first | rfl | (simp; done) | (simp [*]; done)), (by first | rfl | (simp; done) | (simp [*]; done)), H', ⟨Nat.le_refl _⟩, ⟨by first | exact Kd.zcL _ _ _ _ _ | exact Kd.zej _ _ _ _ _ | exact Kd.zef _ _ _ _ _ | exact Kd.zei _ _ _ _ _ | exact Kd.zeg _ _ _ _ _⟩, ⟨by repeat (first | (with_reducible first | exact HB.out | apply zac | apply zaa | apply zaf) | exact HB.out)⟩⟩
 case round =>
  clear H'
  (try clear c1); (try clear p2)
  obtain ⟨x5_1, x6_1, x7_1, rfl, rfl, HA, HK1, HO_5, HB⟩ := hrel
  cases gk with
  | zero => exact absurd HA.out (by simp [zaq.l0])
  | succ k1 =>
   have H := HA.out
   clear HA
   simp only [zaq.l0] at H
   have HC3 := Aside0.mk H
   clear H
   go_upto_region 4 with (fail)
   go_cut [21] (fun v21 wc => ∃ (kq : Nat) (x21_2 : Bool), v21 = .bool x21_2 ∧ Aside0 (zaq.j1 kq l0 l1 x5_1 x6_1 x7_1 x21_2 = some r) ∧ Aside0 (kq ≤ k1) ∧ Aside0 (Kd.R Kd.bool 4 wc w.heap.size (fun _ => True) u5 x5_1) ∧ Aside0 (Below w.heap.size w wc))
   case first =>
    have H := HC3.out
    clear HC3
    by_cases c4 : x7_1 < (l0.length : Int)
    ·rw [if_pos c4] at H
     have c4b0 : decide (x7_1 < (l0.length : Int)) = true := decide_eq_true c4
     clear c4
     (first | rw [c4b0] | (simp only [zaL, zaN]; rw [c4b0]) | skip)
     have H' := Aside0.mk H
     clear H
     go_wp2
     go_meet
     case rel => exact ⟨_, (true), (by first | rfl | (simp; done) | (simp [*]; done)), H', ⟨by have := HK1.out; first | omega | exact Nat.le_refl _⟩, ⟨by (with_reducible repeat (first | apply Kd.zaw | apply Kd.zax | apply Kd.zaE)); exact HO_5.out⟩, ⟨by repeat (first | (with_reducible first | exact HB.out | apply zac | apply zaa | apply zaf) | exact HB.out)⟩⟩
    ·rw [if_neg c4] at H
     have c4b0 : decide (x7_1 < (l0.length : Int)) = false := decide_eq_false c4
     clear c4
     (first | rw [c4b0] | (simp only [zaL, zaN]; rw [c4b0]) | skip)
     by_cases c5 : x7_1 < (l1.length : Int)
     ·rw [if_pos c5] at H
      have c5b0 : decide (x7_1 < (l1.length : Int)) = true := decide_eq_true c5
      clear c5
      have H' := Aside0.mk H
      clear H
      go_wp2
      go_meet
      case rel => exact ⟨_, (true), (by first | rfl | (simp; done) | (simp [*]; done)), H', ⟨by have := HK1.out; first | omega | exact Nat.le_refl _⟩, ⟨by (with_reducible repeat (first | apply Kd.zaw | apply Kd.zax | apply Kd.zaE)); exact HO_5.out⟩, ⟨by repeat (first | (with_reducible first | exact HB.out | apply zac | apply zaa | apply zaf) | exact HB.out)⟩⟩
     ·rw [if_neg c5] at H
      have c5b0 : decide (x7_1 < (l1.length : Int)) = false := decide_eq_false c5
      clear c5
      have H' := Aside0.mk H
      clear H
      go_wp2
      go_meet
      case rel => exact ⟨_, (decide (x6_1 > 0)), (by first | rfl | (simp; done) | (simp [*]; done)), H', ⟨by have := HK1.out; first | omega | exact Nat.le_refl _⟩, ⟨by (with_reducible repeat (first | apply Kd.zaw | apply Kd.zax | apply Kd.zaE)); exact HO_5.out⟩, ⟨by repeat (first | (with_reducible first | exact HB.out | apply zac | apply zaa | apply zaf) | exact HB.out)⟩⟩
   case rest =>
    clear HC3
    (try clear c1); (try clear p2); (try clear c4); (try clear c4b0); (try clear c5); (try clear c5b0); (try clear p2)
    obtain ⟨kq, x21_2, rfl, HA, HJ2, HO_5, HB⟩ := hcut
    cases kq with
    | zero => exact absurd HA.out (by simp [zaq.j1])
    | succ kj2 =>
     have H := HA.out
     clear HA
     simp only [zaq.j1] at H
     by_cases c6 : x21_2 = true
     ·subst c6
      have H1 : ((zaO.f l0 x7_1).bind fun t167 => (if t167 = true then ((zaO.f l1 x7_1).bind fun t168 => (if t168 = true then (if x5_1.length < 140737488355328 then (zaq.l0 kj2 l0 l1 (x5_1 ++ [((Int.tmod (wrap64 ((wrap64 (x6_1 + 1)) + 1)) 2) == 1)]) (wrap64 (Int.tdiv (wrap64 ((wrap64 (x6_1 + 1)) + 1)) 2)) (wrap64 (x7_1 + 1))) else (none)) else (if x5_1.length < 140737488355328 then (zaq.l0 kj2 l0 l1 (x5_1 ++ [((Int.tmod (wrap64 (x6_1 + 1)) 2) == 1)]) (wrap64 (Int.tdiv (wrap64 (x6_1 + 1)) 2)) (wrap64 (x7_1 + 1))) else (none)))) else ((zaO.f l1 x7_1).bind fun t175 => (if t175 = true then (if x5_1.length < 140737488355328 then (zaq.l0 kj2 l0 l1 (x5_1 ++ [((Int.tmod (wrap64 (x6_1 + 1)) 2) == 1)]) (wrap64 (Int.tdiv (wrap64 (x6_1 + 1)) 2)) (wrap64 (x7_1 + 1))) else (none)) else (if x5_1.length < 140737488355328 then (zaq.l0 kj2 l0 l1 (x5_1 ++ [((Int.tmod x6_1 2) == 1)]) (wrap64 (Int.tdiv x6_1 2)) (wrap64 (x7_1 + 1))) else (none)))))) = some r := by rw [if_pos rfl] at H; exact H
      clear H
      have H := H1
      clear H1
      replace H := Option.bind_eq_some_iff.mp H
      obtain ⟨t167, A70, H⟩ := H
      replace H : (if t167 = true then ((zaO.f l1 x7_1).bind fun t168 => (if t168 = true then (if x5_1.length < 140737488355328 then (zaq.l0 kj2 l0 l1 (x5_1 ++ [((Int.tmod (wrap64 ((wrap64 (x6_1 + 1)) + 1)) 2) == 1)]) (wrap64 (Int.tdiv (wrap64 ((wrap64 (x6_1 + 1)) + 1)) 2)) (wrap64 (x7_1 + 1))) else (none)) else (if x5_1.length < 140737488355328 then (zaq.l0 kj2 l0 l1 (x5_1 ++ [((Int.tmod (wrap64 (x6_1 + 1)) 2) == 1)]) (wrap64 (Int.tdiv (wrap64 (x6_1 + 1)) 2)) (wrap64 (x7_1 + 1))) else (none)))) else ((zaO.f l1 x7_1).bind fun t175 => (if t175 = true then (if x5_1.length < 140737488355328 then (zaq.l0 kj2 l0 l1 (x5_1 ++ [((Int.tmod (wrap64 (x6_1 + 1)) 2) == 1)]) (wrap64 (Int.tdiv (wrap64 (x6_1 + 1)) 2)) (wrap64 (x7_1 + 1))) else (none)) else (if x5_1.length < 140737488355328 then (zaq.l0 kj2 l0 l1 (x5_1 ++ [((Int.tmod x6_1 2) == 1)]) (wrap64 (Int.tdiv x6_1 2)) (wrap64 (x7_1 + 1))) else (none))))) = some r := H
      have A7 := Aside0.mk A70
      clear A70
      by_cases c8 : t167 = true
      ·subst c8
       have H1 : ((zaO.f l1 x7_1).bind fun t168 => (if t168 = true then (if x5_1.length < 140737488355328 then (zaq.l0 kj2 l0 l1 (x5_1 ++ [((Int.tmod (wrap64 ((wrap64 (x6_1 + 1)) + 1)) 2) == 1)]) (wrap64 (Int.tdiv (wrap64 ((wrap64 (x6_1 + 1)) + 1)) 2)) (wrap64 (x7_1 + 1))) else (none)) else (if x5_1.length < 140737488355328 then (zaq.l0 kj2 l0 l1 (x5_1 ++ [((Int.tmod (wrap64 (x6_1 + 1)) 2) == 1)]) (wrap64 (Int.tdiv (wrap64 (x6_1 + 1)) 2)) (wrap64 (x7_1 + 1))) else (none)))) = some r := by rw [if_pos rfl] at H; exact H
       clear H
       have H := H1
       clear H1
       replace H := Option.bind_eq_some_iff.mp H
       obtain ⟨t168, A90, H⟩ := H
       replace H : (if t168 = true then (if x5_1.length < 140737488355328 then (zaq.l0 kj2 l0 l1 (x5_1 ++ [((Int.tmod (wrap64 ((wrap64 (x6_1 + 1)) + 1)) 2) == 1)]) (wrap64 (Int.tdiv (wrap64 ((wrap64 (x6_1 + 1)) + 1)) 2)) (wrap64 (x7_1 + 1))) else (none)) else (if x5_1.length < 140737488355328 then (zaq.l0 kj2 l0 l1 (x5_1 ++ [((Int.tmod (wrap64 (x6_1 + 1)) 2) == 1)]) (wrap64 (Int.tdiv (wrap64 (x6_1 + 1)) 2)) (wrap64 (x7_1 + 1))) else (none))) = some r := H
       have A9 := Aside0.mk A90
       clear A90
       by_cases c10 : t168 = true
       ·subst c10
        have H1 : (if x5_1.length < 140737488355328 then (zaq.l0 kj2 l0 l1 (x5_1 ++ [((Int.tmod (wrap64 ((wrap64 (x6_1 + 1)) + 1)) 2) == 1)]) (wrap64 (Int.tdiv (wrap64 ((wrap64 (x6_1 + 1)) + 1)) 2)) (wrap64 (x7_1 + 1))) else (none)) = some r := by rw [if_pos rfl] at H; exact H
        clear H
        have H := H1
        clear H1
        by_cases c11 : x5_1.length < 140737488355328
        ·rw [if_pos c11] at H
         have LMc11 := Aside0.mk c11
         clear c11
         obtain ⟨y169, hy169⟩ : ∃ y_ : List Bool, y_ = (x5_1 ++ [((Int.tmod (wrap64 ((wrap64 (x6_1 + 1)) + 1)) 2) == 1)]) := ⟨_, rfl⟩
         replace H : (zaq.l0 kj2 l0 l1 y169 (wrap64 (Int.tdiv (wrap64 ((wrap64 (x6_1 + 1)) + 1)) 2)) (wrap64 (x7_1 + 1))) = some r := by first | (rw [hy169]; with_reducible exact H) | (have H2_ := (Option.bind_some _ _).symm.trans H; rw [hy169]; with_reducible exact H2_) | (have H2_ := (Option.bind_some _ _).symm.trans H; with_reducible exact H2_) | with_reducible exact H | (rw [hy169]; exact H) | exact H
         have Ny169 := Aside0.mk hy169
         clear hy169
         have H' := Aside0.mk H
         clear H
         go_wp2_with (first | ((with_reducible refine zat (f := 81) rfl ?_); refine za9 (some 26) rfl rfl Tryd.func81 (by kernel_rfl) rfl #[.slice A0 l0.length c0, .int .i64 x7_1] rfl (by (try simp only [List.map_toArray, List.map_cons, List.map_nil]); first | done | rfl | (simp only [List.length_drop, List.length_take]; rfl)) ?_; (with_reducible refine (zaO.calls _ _ l0 x7_1 true _ ?side1 ?side2 A7.out).mono ?_); (case side1 => repeat (first | exact (Kd.zbd HR0.out HB.out) | (with_reducible refine Kd.zbe ?_ _) | (with_reducible refine Kd.zbc ?_ _) | (with_reducible refine Kd.zbt ?_))); (case side2 => exact HC0.out); rintro e w' ⟨rfl, ⟨nd, rfl⟩⟩; refine ⟨_, rfl, ?_⟩) | ((with_reducible refine zat (f := 81) rfl ?_); refine za9 (some 31) rfl rfl Tryd.func81 (by kernel_rfl) rfl #[.slice A1 l1.length c1, .int .i64 x7_1] rfl (by (try simp only [List.map_toArray, List.map_cons, List.map_nil]); first | done | rfl | (simp only [List.length_drop, List.length_take]; rfl)) ?_; (with_reducible refine (zaO.calls _ _ l1 x7_1 true _ ?side1 ?side2 A9.out).mono ?_); (case side1 => repeat (first | exact (Kd.zbd HR1.out (by repeat (first | (with_reducible first | exact HB.out | apply zac | apply zaa | apply zaf) | exact HB.out))) | (with_reducible refine Kd.zbe ?_ _) | (with_reducible refine Kd.zbc ?_ _) | (with_reducible refine Kd.zbt ?_))); (case side2 => exact HC1.out); rintro e w' ⟨rfl, ⟨nd, rfl⟩⟩; refine ⟨_, rfl, ?_⟩) | ((with_reducible refine zbs (b := .append) (xs := #[.tmp 34, .tmp 38]) rfl ?_); (try (refine zbn (by rfl) ?_; dsimp only)); at_builtin; refine Kd.zb7 Kd.bool (w0 := w) w.heap.size rfl (.tmp 34) (.tmp 38) 60 4 (.bool false) 1 rfl Tryd.underlying60 zcI rfl (by decide) (by omega) u5 x5_1 ((Int.tmod (wrap64 ((wrap64 (x6_1 + 1)) + 1)) 2) == 1) [.bool ((Int.tmod (wrap64 ((wrap64 (x6_1 + 1)) + 1)) 2) == 1)] (fun _ => True) (fun _ => False) rfl rfl ?aP (fun _ hk => hk.elim) ?aF ?aO ?aB ?aS ?aL ?_; (case aP => exact rfl); (case aB => exact (by repeat (first | (with_reducible first | exact HB.out | apply zac | apply zaa | apply zaf) | exact HB.out))); (case aF => exact (fun _ _ => trivial)); (case aO => exact (by (with_reducible repeat (first | apply Kd.zaw | apply Kd.zax | apply Kd.zaE)); exact HO_5.out)); (case aS => exact (zao (by repeat (first | (with_reducible first | exact HB.out | apply zac | apply zaa | apply zaf) | exact HB.out)))); (case aL => have := LMc11.out; omega); intro v170 w12 ho hb hg hat; rw [← Ny169.out] at ho; have n0_ := Aside0.mk (hb); have n1_ := Aside0.mk (ho); clear HB; clear HO_5; have HB := n0_; have HO171 := n1_; clear n0_ n1_; clear ho hb hg hat))
         go_roundg kj2
         case measure => have := HK1.out; have := HJ2.out; omega
         case rel => exact ⟨(y169), (wrap64 (Int.tdiv (wrap64 ((wrap64 (x6_1 + 1)) + 1)) 2)), (wrap64 (x7_1 + 1)), (by first | rfl | (simp; done) | (simp [*]; done)), (by first | rfl | (simp; done) | (simp [*]; done)), H', ⟨by have := HK1.out; have := HJ2.out; omega⟩, ⟨by (with_reducible repeat (first | apply Kd.zaw | apply Kd.zax | apply Kd.zaE)); exact HO171.out⟩, ⟨by repeat (first | (with_reducible first | exact HB.out | apply zac | apply zaa | apply zaf) | exact HB.out)⟩⟩
        ·rw [if_neg c11] at H
         exact absurd H (by simp)
       ·replace c10 := Bool.eq_false_iff.mpr c10
        subst c10
        have H1 : (if x5_1.length < 140737488355328 then (zaq.l0 kj2 l0 l1 (x5_1 ++ [((Int.tmod (wrap64 (x6_1 + 1)) 2) == 1)]) (wrap64 (Int.tdiv (wrap64 (x6_1 + 1)) 2)) (wrap64 (x7_1 + 1))) else (none)) = some r := by rw [if_neg (show ¬ (false = true) by decide)] at H; exact H
        clear H
        have H := H1
        clear H1
        by_cases c13 : x5_1.length < 140737488355328
        ·rw [if_pos c13] at H
         have LMc13 := Aside0.mk c13
         clear c13
         obtain ⟨y172, hy172⟩ : ∃ y_ : List Bool, y_ = (x5_1 ++ [((Int.tmod (wrap64 (x6_1 + 1)) 2) == 1)]) := ⟨_, rfl⟩
         replace H : (zaq.l0 kj2 l0 l1 y172 (wrap64 (Int.tdiv (wrap64 (x6_1 + 1)) 2)) (wrap64 (x7_1 + 1))) = some r := by first | (rw [hy172]; with_reducible exact H) | (have H2_ := (Option.bind_some _ _).symm.trans H; rw [hy172]; with_reducible exact H2_) | (have H2_ := (Option.bind_some _ _).symm.trans H; with_reducible exact H2_) | with_reducible exact H | (rw [hy172]; exact H) | exact H
         have Ny172 := Aside0.mk hy172
         clear hy172
         have H' := Aside0.mk H
         clear H
         go_wp2_with (first | ((with_reducible refine zat (f := 81) rfl ?_); refine za9 (some 26) rfl rfl Tryd.func81 (by kernel_rfl) rfl #[.slice A0 l0.length c0, .int .i64 x7_1] rfl (by (try simp only [List.map_toArray, List.map_cons, List.map_nil]); first | done | rfl | (simp only [List.length_drop, List.length_take]; rfl)) ?_; (with_reducible refine (zaO.calls _ _ l0 x7_1 true _ ?side1 ?side2 A7.out).mono ?_); (case side1 => repeat (first | exact (Kd.zbd HR0.out HB.out) | (with_reducible refine Kd.zbe ?_ _) | (with_reducible refine Kd.zbc ?_ _) | (with_reducible refine Kd.zbt ?_))); (case side2 => exact HC0.out); rintro e w' ⟨rfl, ⟨nd, rfl⟩⟩; refine ⟨_, rfl, ?_⟩) | ((with_reducible refine zat (f := 81) rfl ?_); refine za9 (some 31) rfl rfl Tryd.func81 (by kernel_rfl) rfl #[.slice A1 l1.length c1, .int .i64 x7_1] rfl (by (try simp only [List.map_toArray, List.map_cons, List.map_nil]); first | done | rfl | (simp only [List.length_drop, List.length_take]; rfl)) ?_; (with_reducible refine (zaO.calls _ _ l1 x7_1 false _ ?side1 ?side2 A9.out).mono ?_); (case side1 => repeat (first | exact (Kd.zbd HR1.out (by repeat (first | (with_reducible first | exact HB.out | apply zac | apply zaa | apply zaf) | exact HB.out))) | (with_reducible refine Kd.zbe ?_ _) | (with_reducible refine Kd.zbc ?_ _) | (with_reducible refine Kd.zbt ?_))); (case side2 => exact HC1.out); rintro e w' ⟨rfl, ⟨nd, rfl⟩⟩; refine ⟨_, rfl, ?_⟩) | ((with_reducible refine zbs (b := .append) (xs := #[.tmp 34, .tmp 38]) rfl ?_); (try (refine zbn (by rfl) ?_; dsimp only)); at_builtin; refine Kd.zb7 Kd.bool (w0 := w) w.heap.size rfl (.tmp 34) (.tmp 38) 60 4 (.bool false) 1 rfl Tryd.underlying60 zcI rfl (by decide) (by omega) u5 x5_1 ((Int.tmod (wrap64 (x6_1 + 1)) 2) == 1) [.bool ((Int.tmod (wrap64 (x6_1 + 1)) 2) == 1)] (fun _ => True) (fun _ => False) rfl rfl ?aP (fun _ hk => hk.elim) ?aF ?aO ?aB ?aS ?aL ?_; (case aP => exact rfl); (case aB => exact (by repeat (first | (with_reducible first | exact HB.out | apply zac | apply zaa | apply zaf) | exact HB.out))); (case aF => exact (fun _ _ => trivial)); (case aO => exact (by (with_reducible repeat (first | apply Kd.zaw | apply Kd.zax | apply Kd.zaE)); exact HO_5.out)); (case aS => exact (zao (by repeat (first | (with_reducible first | exact HB.out | apply zac | apply zaa | apply zaf) | exact HB.out)))); (case aL => have := LMc13.out; omega); intro v173 w14 ho hb hg hat; rw [← Ny172.out] at ho; have n0_ := Aside0.mk (hb); have n1_ := Aside0.mk (ho); clear HB; clear HO_5; have HB := n0_; have HO174 := n1_; clear n0_ n1_; clear ho hb hg hat))
         go_roundg kj2
         case measure => have := HK1.out; have := HJ2.out; omega
         case rel => exact ⟨(y172), (wrap64 (Int.tdiv (wrap64 (x6_1 + 1)) 2)), (wrap64 (x7_1 + 1)), (by first | rfl | (simp; done) | (simp [*]; done)), (by first | rfl | (simp; done) | (simp [*]; done)), H', ⟨by have := HK1.out; have := HJ2.out; omega⟩, ⟨by (with_reducible repeat (first | apply Kd.zaw | apply Kd.zax | apply Kd.zaE)); exact HO174.out⟩, ⟨by repeat (first | (with_reducible first | exact HB.out | apply zac | apply zaa | apply zaf) | exact HB.out)⟩⟩
        ·rw [if_neg c13] at H
         exact absurd H (by simp)
      ·replace c8 := Bool.eq_false_iff.mpr c8
       subst c8
       have H1 : ((zaO.f l1 x7_1).bind fun t175 => (if t175 = true then (if x5_1.length < 140737488355328 then (zaq.l0 kj2 l0 l1 (x5_1 ++ [((Int.tmod (wrap64 (x6_1 + 1)) 2) == 1)]) (wrap64 (Int.tdiv (wrap64 (x6_1 + 1)) 2)) (wrap64 (x7_1 + 1))) else (none)) else (if x5_1.length < 140737488355328 then (zaq.l0 kj2 l0 l1 (x5_1 ++ [((Int.tmod x6_1 2) == 1)]) (wrap64 (Int.tdiv x6_1 2)) (wrap64 (x7_1 + 1))) else (none)))) = some r := by rw [if_neg (show ¬ (false = true) by decide)] at H; exact H
       clear H
       have H := H1
       clear H1
       replace H := Option.bind_eq_some_iff.mp H
       obtain ⟨t175, A150, H⟩ := H
       replace H : (if t175 = true then (if x5_1.length < 140737488355328 then (zaq.l0 kj2 l0 l1 (x5_1 ++ [((Int.tmod (wrap64 (x6_1 + 1)) 2) == 1)]) (wrap64 (Int.tdiv (wrap64 (x6_1 + 1)) 2)) (wrap64 (x7_1 + 1))) else (none)) else (if x5_1.length < 140737488355328 then (zaq.l0 kj2 l0 l1 (x5_1 ++ [((Int.tmod x6_1 2) == 1)]) (wrap64 (Int.tdiv x6_1 2)) (wrap64 (x7_1 + 1))) else (none))) = some r := H
       have A15 := Aside0.mk A150
       clear A150
       by_cases c16 : t175 = true
       ·subst c16
        have H1 : (if x5_1.length < 140737488355328 then (zaq.l0 kj2 l0 l1 (x5_1 ++ [((Int.tmod (wrap64 (x6_1 + 1)) 2) == 1)]) (wrap64 (Int.tdiv (wrap64 (x6_1 + 1)) 2)) (wrap64 (x7_1 + 1))) else (none)) = some r := by rw [if_pos rfl] at H; exact H
        clear H
        have H := H1
        clear H1
        by_cases c17 : x5_1.length < 140737488355328
        ·rw [if_pos c17] at H
         have LMc17 := Aside0.mk c17
         clear c17
         obtain ⟨y176, hy176⟩ : ∃ y_ : List Bool, y_ = (x5_1 ++ [((Int.tmod (wrap64 (x6_1 + 1)) 2) == 1)]) := ⟨_, rfl⟩
         replace H : (zaq.l0 kj2 l0 l1 y176 (wrap64 (Int.tdiv (wrap64 (x6_1 + 1)) 2)) (wrap64 (x7_1 + 1))) = some r := by first | (rw [hy176]; with_reducible exact H) | (have H2_ := (Option.bind_some _ _).symm.trans H; rw [hy176]; with_reducible exact H2_) | (have H2_ := (Option.bind_some _ _).symm.trans H; with_reducible exact H2_) | with_reducible exact H | (rw [hy176]; exact H) | exact H
         have Ny176 := Aside0.mk hy176
         clear hy176
         have H' := Aside0.mk H
         clear H
         go_wp2_with (first | ((with_reducible refine zat (f := 81) rfl ?_); refine za9 (some 26) rfl rfl Tryd.func81 (by kernel_rfl) rfl #[.slice A0 l0.length c0, .int .i64 x7_1] rfl (by (try simp only [List.map_toArray, List.map_cons, List.map_nil]); first | done | rfl | (simp only [List.length_drop, List.length_take]; rfl)) ?_; (with_reducible refine (zaO.calls _ _ l0 x7_1 false _ ?side1 ?side2 A7.out).mono ?_); (case side1 => repeat (first | exact (Kd.zbd HR0.out HB.out) | (with_reducible refine Kd.zbe ?_ _) | (with_reducible refine Kd.zbc ?_ _) | (with_reducible refine Kd.zbt ?_))); (case side2 => exact HC0.out); rintro e w' ⟨rfl, ⟨nd, rfl⟩⟩; refine ⟨_, rfl, ?_⟩) | ((with_reducible refine zat (f := 81) rfl ?_); refine za9 (some 31) rfl rfl Tryd.func81 (by kernel_rfl) rfl #[.slice A1 l1.length c1, .int .i64 x7_1] rfl (by (try simp only [List.map_toArray, List.map_cons, List.map_nil]); first | done | rfl | (simp only [List.length_drop, List.length_take]; rfl)) ?_; (with_reducible refine (zaO.calls _ _ l1 x7_1 true _ ?side1 ?side2 A15.out).mono ?_); (case side1 => repeat (first | exact (Kd.zbd HR1.out (by repeat (first | (with_reducible first | exact HB.out | apply zac | apply zaa | apply zaf) | exact HB.out))) | (with_reducible refine Kd.zbe ?_ _) | (with_reducible refine Kd.zbc ?_ _) | (with_reducible refine Kd.zbt ?_))); (case side2 => exact HC1.out); rintro e w' ⟨rfl, ⟨nd, rfl⟩⟩; refine ⟨_, rfl, ?_⟩) | ((with_reducible refine zbs (b := .append) (xs := #[.tmp 34, .tmp 38]) rfl ?_); (try (refine zbn (by rfl) ?_; dsimp only)); at_builtin; refine Kd.zb7 Kd.bool (w0 := w) w.heap.size rfl (.tmp 34) (.tmp 38) 60 4 (.bool false) 1 rfl Tryd.underlying60 zcI rfl (by decide) (by omega) u5 x5_1 ((Int.tmod (wrap64 (x6_1 + 1)) 2) == 1) [.bool ((Int.tmod (wrap64 (x6_1 + 1)) 2) == 1)] (fun _ => True) (fun _ => False) rfl rfl ?aP (fun _ hk => hk.elim) ?aF ?aO ?aB ?aS ?aL ?_; (case aP => exact rfl); (case aB => exact (by repeat (first | (with_reducible first | exact HB.out | apply zac | apply zaa | apply zaf) | exact HB.out))); (case aF => exact (fun _ _ => trivial)); (case aO => exact (by (with_reducible repeat (first | apply Kd.zaw | apply Kd.zax | apply Kd.zaE)); exact HO_5.out)); (case aS => exact (zao (by repeat (first | (with_reducible first | exact HB.out | apply zac | apply zaa | apply zaf) | exact HB.out)))); (case aL => have := LMc17.out; omega); intro v177 w18 ho hb hg hat; rw [← Ny176.out] at ho; have n0_ := Aside0.mk (hb); have n1_ := Aside0.mk (ho); clear HB; clear HO_5; have HB := n0_; have HO178 := n1_; clear n0_ n1_; clear ho hb hg hat))
         go_roundg kj2
         case measure => have := HK1.out; have := HJ2.out; omega
         case rel => exact ⟨(y176), (wrap64 (Int.tdiv (wrap64 (x6_1 + 1)) 2)), (wrap64 (x7_1 + 1)), (by first | rfl | (simp; done) | (simp [*]; done)), (by first | rfl | (simp; done) | (simp [*]; done)), H', ⟨by have := HK1.out; have := HJ2.out; omega⟩, ⟨by (with_reducible repeat (first | apply Kd.zaw | apply Kd.zax | apply Kd.zaE)); exact HO178.out⟩, ⟨by repeat (first | (with_reducible first | exact HB.out | apply zac | apply zaa | apply zaf) | exact HB.out)⟩⟩
        ·rw [if_neg c17] at H
         exact absurd H (by simp)
       ·replace c16 := Bool.eq_false_iff.mpr c16
        subst c16
        have H1 : (if x5_1.length < 140737488355328 then (zaq.l0 kj2 l0 l1 (x5_1 ++ [((Int.tmod x6_1 2) == 1)]) (wrap64 (Int.tdiv x6_1 2)) (wrap64 (x7_1 + 1))) else (none)) = some r := by rw [if_neg (show ¬ (false = true) by decide)] at H; exact H
        clear H
        have H := H1
        clear H1
        by_cases c19 : x5_1.length < 140737488355328
        ·rw [if_pos c19] at H
         have LMc19 := Aside0.mk c19
         clear c19
         obtain ⟨y179, hy179⟩ : ∃ y_ : List Bool, y_ = (x5_1 ++ [((Int.tmod x6_1 2) == 1)]) := ⟨_, rfl⟩
         replace H : (zaq.l0 kj2 l0 l1 y179 (wrap64 (Int.tdiv x6_1 2)) (wrap64 (x7_1 + 1))) = some r := by first | (rw [hy179]; with_reducible exact H) | (have H2_ := (Option.bind_some _ _).symm.trans H; rw [hy179]; with_reducible exact H2_) | (have H2_ := (Option.bind_some _ _).symm.trans H; with_reducible exact H2_) | with_reducible exact H | (rw [hy179]; exact H) | exact H
         have Ny179 := Aside0.mk hy179
         clear hy179
         have H' := Aside0.mk H
         clear H
         go_wp2_with (first | ((with_reducible refine zat (f := 81) rfl ?_); refine za9 (some 26) rfl rfl Tryd.func81 (by kernel_rfl) rfl #[.slice A0 l0.length c0, .int .i64 x7_1] rfl (by (try simp only [List.map_toArray, List.map_cons, List.map_nil]); first | done | rfl | (simp only [List.length_drop, List.length_take]; rfl)) ?_; (with_reducible refine (zaO.calls _ _ l0 x7_1 false _ ?side1 ?side2 A7.out).mono ?_); (case side1 => repeat (first | exact (Kd.zbd HR0.out HB.out) | (with_reducible refine Kd.zbe ?_ _) | (with_reducible refine Kd.zbc ?_ _) | (with_reducible refine Kd.zbt ?_))); (case side2 => exact HC0.out); rintro e w' ⟨rfl, ⟨nd, rfl⟩⟩; refine ⟨_, rfl, ?_⟩) | ((with_reducible refine zat (f := 81) rfl ?_); refine za9 (some 31) rfl rfl Tryd.func81 (by kernel_rfl) rfl #[.slice A1 l1.length c1, .int .i64 x7_1] rfl (by (try simp only [List.map_toArray, List.map_cons, List.map_nil]); first | done | rfl | (simp only [List.length_drop, List.length_take]; rfl)) ?_; (with_reducible refine (zaO.calls _ _ l1 x7_1 false _ ?side1 ?side2 A15.out).mono ?_); (case side1 => repeat (first | exact (Kd.zbd HR1.out (by repeat (first | (with_reducible first | exact HB.out | apply zac | apply zaa | apply zaf) | exact HB.out))) | (with_reducible refine Kd.zbe ?_ _) | (with_reducible refine Kd.zbc ?_ _) | (with_reducible refine Kd.zbt ?_))); (case side2 => exact HC1.out); rintro e w' ⟨rfl, ⟨nd, rfl⟩⟩; refine ⟨_, rfl, ?_⟩) | ((with_reducible refine zbs (b := .append) (xs := #[.tmp 34, .tmp 38]) rfl ?_); (try (refine zbn (by rfl) ?_; dsimp only)); at_builtin; refine Kd.zb7 Kd.bool (w0 := w) w.heap.size rfl (.tmp 34) (.tmp 38) 60 4 (.bool false) 1 rfl Tryd.underlying60 zcI rfl (by decide) (by omega) u5 x5_1 ((Int.tmod x6_1 2) == 1) [.bool ((Int.tmod x6_1 2) == 1)] (fun _ => True) (fun _ => False) rfl rfl ?aP (fun _ hk => hk.elim) ?aF ?aO ?aB ?aS ?aL ?_; (case aP => exact rfl); (case aB => exact (by repeat (first | (with_reducible first | exact HB.out | apply zac | apply zaa | apply zaf) | exact HB.out))); (case aF => exact (fun _ _ => trivial)); (case aO => exact (by (with_reducible repeat (first | apply Kd.zaw | apply Kd.zax | apply Kd.zaE)); exact HO_5.out)); (case aS => exact (zao (by repeat (first | (with_reducible first | exact HB.out | apply zac | apply zaa | apply zaf) | exact HB.out)))); (case aL => have := LMc19.out; omega); intro v180 w20 ho hb hg hat; rw [← Ny179.out] at ho; have n0_ := Aside0.mk (hb); have n1_ := Aside0.mk (ho); clear HB; clear HO_5; have HB := n0_; have HO181 := n1_; clear n0_ n1_; clear ho hb hg hat))
         go_roundg kj2
         case measure => have := HK1.out; have := HJ2.out; omega
         case rel => exact ⟨(y179), (wrap64 (Int.tdiv x6_1 2)), (wrap64 (x7_1 + 1)), (by first | rfl | (simp; done) | (simp [*]; done)), (by first | rfl | (simp; done) | (simp [*]; done)), H', ⟨by have := HK1.out; have := HJ2.out; omega⟩, ⟨by (with_reducible repeat (first | apply Kd.zaw | apply Kd.zax | apply Kd.zaE)); exact HO181.out⟩, ⟨by repeat (first | (with_reducible first | exact HB.out | apply zac | apply zaa | apply zaf) | exact HB.out)⟩⟩
        ·rw [if_neg c19] at H
         exact absurd H (by simp)
     ·replace c6 := Bool.eq_false_iff.mpr c6
      subst c6
      have H1 : ((zaF.f kj2 x5_1).bind fun t164 => (some t164)) = some r := by rw [if_neg (show ¬ (false = true) by decide)] at H; exact H
      clear H
      have H := H1
      clear H1
      replace H := Option.bind_eq_some_iff.mp H
      obtain ⟨t164, A210, H⟩ := H
      replace H : (some t164) = some r := H
      have A21 := Aside0.mk A210
      clear A210
      obtain rfl := Option.some.inj H
      obtain ⟨Ao22, co22, eo22⟩ := Kd.zbx HO_5.out
      subst eo22
      go_wp2_with (first | ((with_reducible refine zat (f := 72) rfl ?_); refine za9 (some 43) rfl rfl Tryd.func72 (by kernel_rfl) rfl #[.slice Ao22 x5_1.length co22] rfl (by (try simp only [List.map_toArray, List.map_cons, List.map_nil]); first | done | rfl | (simp only [List.length_drop, List.length_take]; rfl)) ?_; (with_reducible refine (zaF.calls kj2 (fun k_ => some k_ = (.slice Ao22 x5_1.length co22 : Value).ownBlock) (.slice Ao22 x5_1.length co22) x5_1 t164 w _ ?side1 ?side2 A21.out).mono ?_); (case side1 => repeat (first | (with_reducible first | exact HB.out | apply zac | apply zaa | apply zaf) | exact HB.out)); (case side2 => exact Kd.zcB rfl HO_5.out); rintro e w23 ⟨v165, rfl, ho0, hb, hkp⟩; refine ⟨_, rfl, ?_⟩; have n0_ := Aside0.mk (Kd.zbj (ok' := fun k_ => True) ho0 (fun k_ hk_ => trivial)); have n1_ := Aside0.mk (hb); clear HB; clear HO_5; have HO166 := n0_; have HB := n1_; clear n0_ n1_; (try clear hb); (try clear hkp); (try clear ho0)))
      go_ret
      exact ⟨_, by first | rfl | (simp [zas, zar] <;> rfl) | (simp [*, zas, zar] <;> rfl), by (with_reducible repeat (first | apply Kd.zaw | apply Kd.zax | apply Kd.zaE)); exact HO166.out, by repeat (first | (with_reducible first | exact HB.out | apply zac | apply zaa | apply zaf) | exact HB.out)⟩
end Go.Proofs.YtijhnmbegceonaaDoor.PRef
namespace Go.Proofs.YtijhnmbegceonaaDoor.PRef
open Go.RowKit Go.Proofs.YtijhnmbegceonaaDoorW.PrintWords Go.Proofs.YtijhnmbegceonaaDoorW.PrintLast Go.Proofs.YtijhnmbegceonaaDoorW.PrintMore
attribute [local go_sem] zbr zbp zbz zby zbh zbg zbq zbo
set_option linter.unusedVariables false
set_option linter.unusedSimpArgs false
def zaW.l0 : Nat → Int → List Bool → Option (List Bool)
 | 0, _, _ => none
 | k + 1, x0, x3 => if x0 > 0 then (if x3.length < 140737488355328 then (zaW.l0 k (IntKind.u64.wrap (Int.tdiv x0 2)) (x3 ++ [((Int.tmod x0 2) == 1)])) else (none)) else (some x3)
def zaW.f (k : Nat) (a0 : Int) : Option (List Bool) := zaW.l0 k a0 ([] : List Bool)
set_option maxHeartbeats 8000000 in
set_option maxRecDepth 100000 in
theorem zaW.calls (k : Nat) (a0 : Int) (r : List Bool) (w : World) (h : zaW.f k a0 = some r) :
  Calls Tryd.prog 73 #[.int .u64 a0] w fun e w' => ∃ v0_ : Value, e = .returned (v0_) ∧ Kd.R Kd.bool 4 w' w.heap.size (fun _ => True) v0_ r ∧ Below w.heap.size w w' := by
 have HB := Aside0.mk (Below.refl w.heap.size w)
 have H : (zaW.l0 k a0 ([] : List Bool)) = some r := h
 clear h
 have H' := Aside0.mk H
 clear H
 go_enter Tryd.func73, Tryd.ntmps73
 go_wp2
 go_loopg [0, 3] k (fun kq v0 v3 w' => ∃ (x0_1 : Int) (x3_1 : List Bool), v0 = .int .u64 x0_1 ∧ Aside0 (zaW.l0 kq x0_1 x3_1 = some r) ∧ Aside0 (kq ≤ k) ∧ Aside0 (Kd.R Kd.bool 4 w' w.heap.size (fun _ => True) v3 x3_1) ∧ Aside0 (Below w.heap.size w w'))
 case atStart => exact ⟨(a0), (([] : List Bool)), (by first | rfl | (simp; done) | (simp [*]; done)), H', ⟨Nat.le_refl _⟩, ⟨by first | exact Kd.zcL _ _ _ _ _ | exact Kd.zej _ _ _ _ _ | exact Kd.zef _ _ _ _ _ | exact Kd.zei _ _ _ _ _ | exact Kd.zeg _ _ _ _ _⟩, ⟨by repeat (first | (with_reducible first | exact HB.out | apply zac | apply zaa | apply zaf) | exact HB.out)⟩⟩
 case round =>
  clear H'
  obtain ⟨x0_1, x3_1, rfl, HA, HK1, HO_3, HB⟩ := hrel
  cases gk with
  | zero => exact absurd HA.out (by simp [zaW.l0])
  | succ k1 =>
   have H := HA.out
   clear HA
   simp only [zaW.l0] at H
   by_cases c2 : x0_1 > 0
   ·rw [if_pos c2] at H
    have c2b0 : decide (0 < x0_1) = true := decide_eq_true c2
    clear c2
    by_cases c3 : x3_1.length < 140737488355328
    ·rw [if_pos c3] at H
     have LMc3 := Aside0.mk c3
     clear c3
     obtain ⟨y182, hy182⟩ : ∃ y_ : List Bool, y_ = (x3_1 ++ [((Int.tmod x0_1 2) == 1)]) := ⟨_, rfl⟩
     replace H : (zaW.l0 k1 (IntKind.u64.wrap (Int.tdiv x0_1 2)) y182) = some r := by first | (rw [hy182]; with_reducible exact H) | (have H2_ := (Option.bind_some _ _).symm.trans H; rw [hy182]; with_reducible exact H2_) | (have H2_ := (Option.bind_some _ _).symm.trans H; with_reducible exact H2_) | with_reducible exact H | (rw [hy182]; exact H) | exact H
     have Ny182 := Aside0.mk hy182
     clear hy182
     have H' := Aside0.mk H
     clear H
     go_wp2_with (first | ((with_reducible refine zbs (b := .append) (xs := #[.tmp 6, .tmp 10]) rfl ?_); at_builtin; refine Kd.zb7 Kd.bool (w0 := w) w.heap.size rfl (.tmp 6) (.tmp 10) 60 4 (.bool false) 1 rfl Tryd.underlying60 zcI rfl (by decide) (by omega) u3 x3_1 ((Int.tmod x0_1 2) == 1) [.bool ((Int.tmod x0_1 2) == 1)] (fun _ => True) (fun _ => False) rfl rfl ?aP (fun _ hk => hk.elim) ?aF ?aO ?aB ?aS ?aL ?_; (case aP => exact rfl); (case aB => exact (by repeat (first | (with_reducible first | exact HB.out | apply zac | apply zaa | apply zaf) | exact HB.out))); (case aF => exact (fun _ _ => trivial)); (case aO => exact (by (with_reducible repeat (first | apply Kd.zaw | apply Kd.zax | apply Kd.zaE)); exact HO_3.out)); (case aS => exact (zao (by repeat (first | (with_reducible first | exact HB.out | apply zac | apply zaa | apply zaf) | exact HB.out)))); (case aL => have := LMc3.out; omega); intro v183 w4 ho hb hg hat; rw [← Ny182.out] at ho; have n0_ := Aside0.mk (hb); have n1_ := Aside0.mk (ho); clear HB; clear HO_3; have HB := n0_; have HO184 := n1_; clear n0_ n1_; clear ho hb hg hat))
     go_roundg k1
     case measure => have := HK1.out; omega
     case rel => exact ⟨(IntKind.u64.wrap (Int.tdiv x0_1 2)), (y182), (by first | rfl | (simp; done) | (simp [*]; done)), H', ⟨by have := HK1.out; omega⟩, ⟨by (with_reducible repeat (first | apply Kd.zaw | apply Kd.zax | apply Kd.zaE)); exact HO184.out⟩, ⟨by repeat (first | (with_reducible first | exact HB.out | apply zac | apply zaa | apply zaf) | exact HB.out)⟩⟩
    ·rw [if_neg c3] at H
     exact absurd H (by simp)
   ·rw [if_neg c2] at H
    have c2b0 : decide (0 < x0_1) = false := decide_eq_false c2
    clear c2
    obtain rfl := Option.some.inj H
    go_wp2
    go_ret
    exact ⟨_, by first | rfl | (simp [zas, zar] <;> rfl) | (simp [*, zas, zar] <;> rfl), by (with_reducible repeat (first | apply Kd.zaw | apply Kd.zax | apply Kd.zaE)); exact HO_3.out, by repeat (first | (with_reducible first | exact HB.out | apply zac | apply zaa | apply zaf) | exact HB.out)⟩
def za6.f (k : Nat) (a0 : Int) : Option (List Bool) := if a0 < 0 then ((zaW.f k (IntKind.u64.wrap (wrap64 (-(wrap64 (a0 + 1)))))).bind fun t185 => ((zaW.f k 1).bind fun t188 => ((zaq.f k t185 t188).bind fun t191 => (some t191)))) else ((zaW.f k (IntKind.u64.wrap (a0))).bind fun t194 => (some t194))
set_option maxHeartbeats 8000000 in
set_option maxRecDepth 100000 in
theorem za6.calls (k : Nat) (a0 : Int) (r : List Bool) (w : World) (h : za6.f k a0 = some r) :
  Calls Tryd.prog 51 #[.int .i64 a0] w fun e w' => ∃ v0_ : Value, e = .returned (v0_) ∧ Kd.R Kd.bool 4 w' w.heap.size (fun _ => True) v0_ r ∧ Below w.heap.size w w' := by
 have HB := Aside0.mk (Below.refl w.heap.size w)
 have H : (if a0 < 0 then ((zaW.f k (IntKind.u64.wrap (wrap64 (-(wrap64 (a0 + 1)))))).bind fun t185 => ((zaW.f k 1).bind fun t188 => ((zaq.f k t185 t188).bind fun t191 => (some t191)))) else ((zaW.f k (IntKind.u64.wrap (a0))).bind fun t194 => (some t194))) = some r := h
 clear h
 by_cases c2 : a0 < 0
 ·rw [if_pos c2] at H
  have c2b0 : decide (a0 < 0) = true := decide_eq_true c2
  clear c2
  replace H := Option.bind_eq_some_iff.mp H
  obtain ⟨t185, A30, H⟩ := H
  replace H : ((zaW.f k 1).bind fun t188 => ((zaq.f k t185 t188).bind fun t191 => (some t191))) = some r := H
  have A3 := Aside0.mk A30
  clear A30
  replace H := Option.bind_eq_some_iff.mp H
  obtain ⟨t188, A40, H⟩ := H
  replace H : ((zaq.f k t185 t188).bind fun t191 => (some t191)) = some r := H
  have A4 := Aside0.mk A40
  clear A40
  replace H := Option.bind_eq_some_iff.mp H
  obtain ⟨t191, A50, H⟩ := H
  replace H : (some t191) = some r := H
  have A5 := Aside0.mk A50
  clear A50
  obtain rfl := Option.some.inj H
  go_enter Tryd.func51, Tryd.ntmps51
  go_wp2_with (first | ((with_reducible refine zat (f := 73) rfl ?_); refine za9 (some 9) rfl rfl Tryd.func73 (by kernel_rfl) rfl #[.int .u64 (IntKind.u64.wrap (wrap64 (-(wrap64 (a0 + 1)))))] rfl (by (try simp only [List.map_toArray, List.map_cons, List.map_nil]); first | done | rfl | (simp only [List.length_drop, List.length_take]; rfl)) ?_; (with_reducible refine (zaW.calls k (IntKind.u64.wrap (wrap64 (-(wrap64 (a0 + 1))))) t185 _ A3.out).mono ?_); rintro e w6 ⟨v186, rfl, ho0, hb⟩; refine ⟨_, rfl, ?_⟩; have n0_ := Aside0.mk (Kd.zbF ho0 (zao (by repeat (first | (with_reducible first | exact HB.out | apply zac | apply zaa | apply zaf) | exact HB.out)))); have n1_ := Aside0.mk (zam (by repeat (first | (with_reducible first | exact HB.out | apply zac | apply zaa | apply zaf) | exact HB.out)) hb); clear HB; have HO187 := n0_; have HB := n1_; clear n0_ n1_; (try clear hb); (try clear hb2); (try clear hk); (try clear hi); (try clear ho0)) | ((with_reducible refine zat (f := 73) rfl ?_); refine za9 (some 10) rfl rfl Tryd.func73 (by kernel_rfl) rfl #[.int .u64 1] rfl (by (try simp only [List.map_toArray, List.map_cons, List.map_nil]); first | done | rfl | (simp only [List.length_drop, List.length_take]; rfl)) ?_; (with_reducible refine (zaW.calls k 1 t188 _ A4.out).mono ?_); rintro e w7 ⟨v189, rfl, ho0, hb⟩; refine ⟨_, rfl, ?_⟩; have n0_ := Aside0.mk (Kd.zbG (by (with_reducible repeat (first | apply Kd.zaw | apply Kd.zax | apply Kd.zaE)); exact HO187.out) (Kd.zbJ ho0) hb); have n1_ := Aside0.mk (Kd.zbF (Kd.zbU ho0 (Kd.R_lt (by (with_reducible repeat (first | apply Kd.zaw | apply Kd.zax | apply Kd.zaE)); exact HO187.out))) (zao (by repeat (first | (with_reducible first | exact HB.out | apply zac | apply zaa | apply zaf) | exact HB.out)))); have n2_ := Aside0.mk (zam (by repeat (first | (with_reducible first | exact HB.out | apply zac | apply zaa | apply zaf) | exact HB.out)) hb); clear HO187; clear HB; have HO187 := n0_; have HO190 := n1_; have HB := n2_; clear n0_ n1_ n2_; (try clear hb); (try clear hb2); (try clear hk); (try clear hi); (try clear ho0); obtain ⟨Ao8, co8, eo8⟩ := Kd.zbx HO187.out; subst eo8; obtain ⟨Ao9, co9, eo9⟩ := Kd.zbx HO190.out; subst eo9) | ((with_reducible refine zat (f := 69) rfl ?_); refine za9 (some 11) rfl rfl Tryd.func69 (by kernel_rfl) rfl #[.slice Ao8 t185.length co8, .slice Ao9 t188.length co9] rfl (by (try simp only [List.map_toArray, List.map_cons, List.map_nil]); first | done | rfl | (simp only [List.length_drop, List.length_take]; rfl)) ?_; (with_reducible refine (zaq.calls k _ _ t185 _ _ t188 t191 _ ?side1 ?side2 ?side3 ?side4 A5.out).mono ?_); (case side1 => repeat (first | exact (Kd.zbk HO187.out).2.2 | (with_reducible refine Kd.zbe ?_ _) | (with_reducible refine Kd.zbc ?_ _) | (with_reducible refine Kd.zbt ?_))); (case side2 => exact (Kd.zbk HO187.out).2.1); (case side3 => repeat (first | exact (Kd.zbk HO190.out).2.2 | (with_reducible refine Kd.zbe ?_ _) | (with_reducible refine Kd.zbc ?_ _) | (with_reducible refine Kd.zbt ?_))); (case side4 => exact (Kd.zbk HO190.out).2.1); rintro e w10 ⟨v192, rfl, ho0, hb⟩; refine ⟨_, rfl, ?_⟩; have n0_ := Aside0.mk (Kd.zbG (by (with_reducible repeat (first | apply Kd.zaw | apply Kd.zax | apply Kd.zaE)); exact HO187.out) (Kd.zbJ ho0) hb); have n1_ := Aside0.mk (Kd.zbG (by (with_reducible repeat (first | apply Kd.zaw | apply Kd.zax | apply Kd.zaE)); exact HO190.out) (Kd.zbJ ho0) hb); have n2_ := Aside0.mk (Kd.zbF (Kd.zbU (Kd.zbU ho0 (Kd.R_lt (by (with_reducible repeat (first | apply Kd.zaw | apply Kd.zax | apply Kd.zaE)); exact HO187.out))) (Kd.R_lt (by (with_reducible repeat (first | apply Kd.zaw | apply Kd.zax | apply Kd.zaE)); exact HO190.out))) (zao (by repeat (first | (with_reducible first | exact HB.out | apply zac | apply zaa | apply zaf) | exact HB.out)))); have n3_ := Aside0.mk (zam (by repeat (first | (with_reducible first | exact HB.out | apply zac | apply zaa | apply zaf) | exact HB.out)) hb); clear HO187; clear HO190; clear HB; have HO187 := n0_; have HO190 := n1_; have HO193 := n2_; have HB := n3_; clear n0_ n1_ n2_ n3_; (try clear hb); (try clear hb2); (try clear hk); (try clear hi); (try clear ho0)))
  go_ret
  exact ⟨_, by first | rfl | (simp [zas, zar] <;> rfl) | (simp [*, zas, zar] <;> rfl), by (with_reducible repeat (first | apply Kd.zaw | apply Kd.zax | apply Kd.zaE)); exact Kd.zbj HO193.out (fun _ hk => trivial), by repeat (first | (with_reducible first | exact HB.out | apply zac | apply zaa | apply zaf) | exact HB.out)⟩
 ·rw [if_neg c2] at H
  have c2b0 : decide (a0 < 0) = false := decide_eq_false c2
  clear c2
  replace H := Option.bind_eq_some_iff.mp H
  obtain ⟨t194, A110, H⟩ := H
  replace H : (some t194) = some r := H
  have A11 := Aside0.mk A110
  clear A110
  obtain rfl := Option.some.inj H
  go_enter Tryd.func51, Tryd.ntmps51
  go_wp2_with (first | ((with_reducible refine zat (f := 73) rfl ?_); refine za9 (some 14) rfl rfl Tryd.func73 (by kernel_rfl) rfl #[.int .u64 (IntKind.u64.wrap (a0))] rfl (by (try simp only [List.map_toArray, List.map_cons, List.map_nil]); first | done | rfl | (simp only [List.length_drop, List.length_take]; rfl)) ?_; (with_reducible refine (zaW.calls k (IntKind.u64.wrap (a0)) t194 _ A11.out).mono ?_); rintro e w12 ⟨v195, rfl, ho0, hb⟩; refine ⟨_, rfl, ?_⟩; have n0_ := Aside0.mk (Kd.zbF ho0 (zao (by repeat (first | (with_reducible first | exact HB.out | apply zac | apply zaa | apply zaf) | exact HB.out)))); have n1_ := Aside0.mk (zam (by repeat (first | (with_reducible first | exact HB.out | apply zac | apply zaa | apply zaf) | exact HB.out)) hb); clear HB; have HO196 := n0_; have HB := n1_; clear n0_ n1_; (try clear hb); (try clear hb2); (try clear hk); (try clear hi); (try clear ho0)))
  go_ret
  exact ⟨_, by first | rfl | (simp [zas, zar] <;> rfl) | (simp [*, zas, zar] <;> rfl), by (with_reducible repeat (first | apply Kd.zaw | apply Kd.zax | apply Kd.zaE)); exact HO196.out, by repeat (first | (with_reducible first | exact HB.out | apply zac | apply zaa | apply zaf) | exact HB.out)⟩
end Go.Proofs.YtijhnmbegceonaaDoor.PRef
namespace Go.Proofs.YtijhnmbegceonaaDoor.PRef
open Go.RowKit Go.Proofs.YtijhnmbegceonaaDoorW.PrintWords Go.Proofs.YtijhnmbegceonaaDoorW.PrintLast Go.Proofs.YtijhnmbegceonaaDoorW.PrintMore
attribute [local go_sem] zbr zbp zbz zby zbh zbg zbq zbo
set_option linter.unusedVariables false
set_option linter.unusedSimpArgs false
def zaz.j0 : Nat → Bool → Int → Int → Option (Bool)
 | 0, _, _, _ => none
 | k + 1, x10, x198000, x198001 => if x10 = true then (some false) else ((za6.f k x198000).bind fun t198 => ((za6.f k x198001).bind fun t201 => ((zaR.f k t198 t201).bind fun t204 => (some ((t204.length : Int) == 1)))))
def zaz.f (k : Nat) (a0_0 : Int) (a0_1 : Int) : Option (Bool) := if a0_1 ≤ 0 then (zaz.j0 k true a0_0 a0_1) else (zaz.j0 k (a0_0 == (-9223372036854775808)) a0_0 a0_1)
def zaz.T3 : Bool × List (List Nat × List Nat) := (true, [([], []), ([0], [0]), ([1], [1]), ([], []), ([3], [3]), ([4, 2], [4]), ([2, 5, 5], [2, 5]), ([6], [6]), ([7], [7]), ([8, 6, 0, 1, 2, 3, 4, 5, 6, 7, 8], [8])])
def zaz.B3 : List Nat := [0, 1, 3, 0, 8, 31, 63, 127, 255, 511]
theorem zaz.tab3 : rtab .any (opsOf Tryd.f27 3) = zaz.T3 := by kernel_rfl
theorem zaz.bits3 : zcb zaz.T3.2 zaz.B3 = true := by kernel_rfl
set_option maxHeartbeats 8000000 in
set_option maxRecDepth 100000 in
theorem zaz.calls (k : Nat) (a0_0 : Int) (a0_1 : Int) (r : Bool) (w : World) (h : zaz.f k a0_0 a0_1 = some r) :
  Calls Tryd.prog 27 #[.agg #[.int .i64 a0_0, .int .i64 a0_1]] w fun e w' => e = .returned (.bool r) ∧ Below w.heap.size w w' := by
 have hu24 := Tryd.underlying24
 have HB := Aside0.mk (Below.refl w.heap.size w)
 have H : (if a0_1 ≤ 0 then (zaz.j0 k true a0_0 a0_1) else (zaz.j0 k (a0_0 == (-9223372036854775808)) a0_0 a0_1)) = some r := h
 clear h
 have HC2 := Aside0.mk H
 clear H
 go_enter Tryd.func27, Tryd.ntmps27
 go_upto_region 1 with (first | ((with_reducible refine zaK (N := 1) rfl ?_); refine zaI ?hg (N := 1) ?hd (cs := #[.int .i64 a0_0, .int .i64 a0_1]) (t := 24) ?hr ?_; (case hd => rfl); (case hg => rfl); (case hr => first | (go_simp; done) | (go_simp; rfl)); intro gb197 hg w3 hbox hb; have n0_ := Aside0.mk (zam (by repeat (first | (with_reducible first | exact HB.out | apply zac | apply zaa | apply zaf) | exact HB.out)) hb); have n1_ := Aside0.mk (hbox); have n2_ := Aside0.mk ((by rw [hg]; exact (zao (by repeat (first | (with_reducible first | exact HB.out | apply zac | apply zaa | apply zaf) | exact HB.out))) : w.heap.size ≤ gb197)); have n3_ := n2_; clear HB; have HB := n0_; have BK197 := n1_; have GW197 := n2_; have GE197 := n3_; clear n0_ n1_ n2_ n3_; clear hb hbox hg))
 (try simp only [Act.put, List.setIfInBounds_toArray, List.set_cons_zero, List.set_cons_succ])
 go_cut [10] (fun v10 wc => ∃ (kq : Nat) (x10_1 : Bool), v10 = .bool x10_1 ∧ Aside0 (zaz.j0 kq x10_1 a0_0 a0_1 = some r) ∧ Aside0 (kq ≤ k) ∧ Aside0 (wc.heap[gb197]? = some (.cells #[.int .i64 a0_0, .int .i64 a0_1] 24 (0, 0))) ∧ Aside0 (Below w.heap.size w wc))
 case first =>
  have H := HC2.out
  clear HC2
  by_cases c4 : a0_1 ≤ 0
  ·rw [if_pos c4] at H
   have c4b0 : decide (a0_1 ≤ 0) = true := decide_eq_true c4
   clear c4
   (first | rw [c4b0] | (simp only [zaL, zaN]; rw [c4b0]) | skip)
   have H' := Aside0.mk H
   clear H
   have hcz5_0 : w3.cell? ⟨gb197, 0, none⟩ = some (.int .i64 a0_0) := (zak BK197.out 0).trans rfl
   have hcz5_1 : w3.cell? ⟨gb197, 1, none⟩ = some (.int .i64 a0_1) := (zak BK197.out 1).trans rfl
   have hfz5_0 := zah BK197.out 0
   have hfz5_1 := zah BK197.out 1
   go_wp2
   go_meet
   case rel => exact ⟨_, (true), (by first | rfl | (simp; done) | (simp [*]; done)), H', ⟨by first | omega | exact Nat.le_refl _⟩, ⟨by (with_reducible repeat (first | apply zae | apply zai | apply zad)); exact BK197.out⟩, ⟨by repeat (first | (with_reducible first | exact HB.out | apply zac | apply zaa | apply zaf | refine zab ?_ GE197.out) | exact HB.out)⟩⟩
  ·rw [if_neg c4] at H
   have c4b0 : decide (a0_1 ≤ 0) = false := decide_eq_false c4
   clear c4
   (first | rw [c4b0] | (simp only [zaL, zaN]; rw [c4b0]) | skip)
   have H' := Aside0.mk H
   clear H
   have hcz6_0 : w3.cell? ⟨gb197, 0, none⟩ = some (.int .i64 a0_0) := (zak BK197.out 0).trans rfl
   have hcz6_1 : w3.cell? ⟨gb197, 1, none⟩ = some (.int .i64 a0_1) := (zak BK197.out 1).trans rfl
   have hfz6_0 := zah BK197.out 0
   have hfz6_1 := zah BK197.out 1
   go_wp2
   go_meet
   case rel => exact ⟨_, ((a0_0 == (-9223372036854775808))), (by first | rfl | (simp; done) | (simp [*]; done)), H', ⟨by first | omega | exact Nat.le_refl _⟩, ⟨by (with_reducible repeat (first | apply zae | apply zai | apply zad)); exact BK197.out⟩, ⟨by repeat (first | (with_reducible first | exact HB.out | apply zac | apply zaa | apply zaf | refine zab ?_ GE197.out) | exact HB.out)⟩⟩
 case rest =>
  clear HC2
  (try clear c2); (try clear p2); (try clear c4); (try clear c4b0); (try clear hcz5_0); (try clear hcz5_1); (try clear hcz6_0); (try clear hcz6_1); (try clear hfz5_0); (try clear hfz5_1); (try clear hfz6_0); (try clear hfz6_1)
  obtain ⟨kq, x10_1, rfl, HA, HJ1, BK197, HB⟩ := hcut
  cases kq with
  | zero => exact absurd HA.out (by simp [zaz.j0])
  | succ kj1 =>
   have H := HA.out
   clear HA
   simp only [zaz.j0] at H
   by_cases c7 : x10_1 = true
   ·subst c7
    have H1 : (some false) = some r := by rw [if_pos rfl] at H; exact H
    clear H
    have H := H1
    clear H1
    obtain rfl := Option.some.inj H
    go_wp2
    go_ret
    exact ⟨by first | rfl | (simp [zas, zar] <;> rfl) | (simp [*, zas, zar] <;> rfl), by repeat (first | (with_reducible first | exact HB.out | apply zac | apply zaa | apply zaf | refine zab ?_ GE197.out) | exact HB.out)⟩
   ·replace c7 := Bool.eq_false_iff.mpr c7
    subst c7
    have H1 : ((za6.f kj1 a0_0).bind fun t198 => ((za6.f kj1 a0_1).bind fun t201 => ((zaR.f kj1 t198 t201).bind fun t204 => (some ((t204.length : Int) == 1))))) = some r := by rw [if_neg (show ¬ (false = true) by decide)] at H; exact H
    clear H
    have H := H1
    clear H1
    replace H := Option.bind_eq_some_iff.mp H
    obtain ⟨t198, A80, H⟩ := H
    replace H : ((za6.f kj1 a0_1).bind fun t201 => ((zaR.f kj1 t198 t201).bind fun t204 => (some ((t204.length : Int) == 1)))) = some r := H
    have A8 := Aside0.mk A80
    clear A80
    replace H := Option.bind_eq_some_iff.mp H
    obtain ⟨t201, A90, H⟩ := H
    replace H : ((zaR.f kj1 t198 t201).bind fun t204 => (some ((t204.length : Int) == 1))) = some r := H
    have A9 := Aside0.mk A90
    clear A90
    replace H := Option.bind_eq_some_iff.mp H
    obtain ⟨t204, A100, H⟩ := H
    replace H : (some ((t204.length : Int) == 1)) = some r := H
    have A10 := Aside0.mk A100
    clear A100
    obtain rfl := Option.some.inj H
    try go_wp2
    have n0_ := Aside0.mk (zai BK197.out)
    have n1_ := Aside0.mk (zaf HB.out)
    clear BK197 HB
    have BK197 := n0_
    have HB := n1_
    clear n0_ n1_
    refine zcP (n := 10) (S := fun w' => w'.cell? ⟨gb197, 0, none⟩ = some (.int .i64 a0_0) ∧ w'.cell? ⟨gb197, 1, none⟩ = some (.int .i64 a0_1)) (ds := []) #[false, false, false, false, false, false, false, false, false, false] (by kernel_rfl) rfl rfl ⟨(zak BK197.out 0).trans rfl, (zak BK197.out 1).trans rfl⟩ (fun hHeld => ?_); refine zb8 zaz.tab3 zaz.bits3 (fun HT_ HW_ => ?_)
    generalize wc.drew = w11 at BK197 HB hHeld ⊢
    refine zbB (i := 0) (N := some 11) (v := ?_) (a' := ?_) #[true, false, false, false, false, false, false, false, false, false] rfl rfl (zbm HT_.out (by kernel_rfl)) (fun _ _ _ h => h) (Or.inl ⟨by rfl, ?_⟩) ?_ ?_
    rotate_left
    ·intro w'
     go_simp
     with_reducible rfl
    rotate_left
    ·simp only [Act.put, List.setIfInBounds_toArray, List.set_cons_zero, List.set_cons_succ, zaL, zaN]
     rfl
    refine zbB (i := 3) (N := some 14) (v := ?_) (a' := ?_) #[true, false, false, true, false, false, false, false, false, false] rfl rfl (zbm HT_.out (by kernel_rfl)) (fun _ _ _ h => h) (Or.inl ⟨by rfl, ?_⟩) ?_ ?_
    rotate_left
    ·intro w'
     go_simp
     with_reducible rfl
    rotate_left
    ·simp only [Act.put, List.setIfInBounds_toArray, List.set_cons_zero, List.set_cons_succ, zaL, zaN]
     rfl
    refine zb4 (i := 1) (N := some 12) (v := ?_) (a' := ?_) #[true, true, false, true, false, false, false, false, false, false] rfl rfl (zbv HT_.out HW_.out (by kernel_rfl)) (fun _ _ _ h => h) (Or.inl ⟨by rfl, ?_⟩) hHeld ?_ ?_
    rotate_left
    ·rintro w' ⟨s0, s1⟩
     go_simp
     with_reducible rfl
    rotate_left
    ·simp only [Act.put, List.setIfInBounds_toArray, List.set_cons_zero, List.set_cons_succ, zaL, zaN]
     rfl
    refine zb4 (i := 4) (N := some 15) (v := ?_) (a' := ?_) #[true, true, false, true, true, false, false, false, false, false] rfl rfl (zbv HT_.out HW_.out (by kernel_rfl)) (fun _ _ _ h => h) (Or.inl ⟨by rfl, ?_⟩) hHeld ?_ ?_
    rotate_left
    ·rintro w' ⟨s0, s1⟩
     go_simp
     with_reducible rfl
    rotate_left
    ·simp only [Act.put, List.setIfInBounds_toArray, List.set_cons_zero, List.set_cons_succ, zaL, zaN]
     rfl
    refine one_ (i := 2) (N := some 13) #[true, true, true, true, true, false, false, false, false, false] rfl rfl (zbK HT_.out (by kernel_rfl)) (by decide) (fun K hK => ?_)
    refine zce Tryd.func51 (by kernel_rfl) rfl #[.int .i64 a0_0] (by rfl) rfl rfl (by (try simp only [List.map_toArray, List.map_cons, List.map_nil]); first | done | rfl | (simp only [List.length_drop, List.length_take]; rfl)) ?_
    with_reducible refine (za6.calls kj1 a0_0 t198 _ A8.out).mono ?_
    rintro e w12 ⟨v199, rfl, ho0, hb⟩
    refine ⟨_, rfl, ?_⟩
    have n0_ := Aside0.mk (Kd.zbF ho0 (zao (by repeat (first | (with_reducible first | exact HB.out | apply zac | apply zaa | apply zaf | refine zab ?_ GE197.out) | exact HB.out))))
    have n1_ := Aside0.mk (zaj (g := gb197) (o := .cells #[.int .i64 a0_0, .int .i64 a0_1] 24 (0, 0)) (by (with_reducible repeat (first | apply zae | apply zai | apply zad)); exact BK197.out) hb)
    have n2_ := Aside0.mk (zam (by repeat (first | (with_reducible first | exact HB.out | apply zac | apply zaa | apply zaf | refine zab ?_ GE197.out) | exact HB.out)) hb)
    clear BK197 HB
    have HO200 := n0_
    have BK197 := n1_
    have HB := n2_
    clear n0_ n1_ n2_
    (try clear hb)
    (try clear hb2)
    (try clear hk)
    (try clear hi)
    (try clear ho0)
    refine hK.out _ _ ⟨(zak BK197.out 0).trans rfl, (zak BK197.out 1).trans rfl⟩ (fun hHeld => ?_)
    clear hK K
    refine zbE (a' := ?_) ?_ ?_
    rotate_left
    ·show Act.put _ (some 13) _ = _
     simp only [Act.put, List.setIfInBounds_toArray, List.set_cons_zero, List.set_cons_succ, zaL, zaN]
     rfl
    refine one_ (i := 5) (N := some 16) #[true, true, true, true, true, true, false, false, false, false] rfl rfl (zbK HT_.out (by kernel_rfl)) (by decide) (fun K hK => ?_)
    refine zce Tryd.func51 (by kernel_rfl) rfl #[.int .i64 a0_1] (by rfl) rfl rfl (by (try simp only [List.map_toArray, List.map_cons, List.map_nil]); first | done | rfl | (simp only [List.length_drop, List.length_take]; rfl)) ?_
    with_reducible refine (za6.calls kj1 a0_1 t201 _ A9.out).mono ?_
    rintro e w13 ⟨v202, rfl, ho0, hb⟩
    refine ⟨_, rfl, ?_⟩
    have n0_ := Aside0.mk (Kd.zbG (by (with_reducible repeat (first | apply Kd.zaw | apply Kd.zax | apply Kd.zaE)); exact HO200.out) (Kd.zbJ ho0) hb)
    have n1_ := Aside0.mk (Kd.zbF (Kd.zbU ho0 (Kd.R_lt (by (with_reducible repeat (first | apply Kd.zaw | apply Kd.zax | apply Kd.zaE)); exact HO200.out))) (zao (by repeat (first | (with_reducible first | exact HB.out | apply zac | apply zaa | apply zaf | refine zab ?_ GE197.out) | exact HB.out))))
    have n2_ := Aside0.mk (zaj (g := gb197) (o := .cells #[.int .i64 a0_0, .int .i64 a0_1] 24 (0, 0)) (by (with_reducible repeat (first | apply zae | apply zai | apply zad)); exact BK197.out) hb)
    have n3_ := Aside0.mk (zam (by repeat (first | (with_reducible first | exact HB.out | apply zac | apply zaa | apply zaf | refine zab ?_ GE197.out) | exact HB.out)) hb)
    clear HO200 BK197 HB
    have HO200 := n0_
    have HO203 := n1_
    have BK197 := n2_
    have HB := n3_
    clear n0_ n1_ n2_ n3_
    (try clear hb)
    (try clear hb2)
    (try clear hk)
    (try clear hi)
    (try clear ho0)
    obtain ⟨Ao14, co14, eo14⟩ := Kd.zbx HO200.out
    (first | subst eo14 | (injection eo14 with f1_ f2_ f3_; have f4_ := f1_.symm; have f5_ := f3_.symm; clear f1_ f2_ f3_; subst f4_; subst f5_))
    obtain ⟨Ao15, co15, eo15⟩ := Kd.zbx HO203.out
    (first | subst eo15 | (injection eo15 with f1_ f2_ f3_; have f4_ := f1_.symm; have f5_ := f3_.symm; clear f1_ f2_ f3_; subst f4_; subst f5_))
    refine hK.out _ _ ⟨(zak BK197.out 0).trans rfl, (zak BK197.out 1).trans rfl⟩ (fun hHeld => ?_)
    clear hK K
    refine zbE (a' := ?_) ?_ ?_
    rotate_left
    ·show Act.put _ (some 16) _ = _
     simp only [Act.put, List.setIfInBounds_toArray, List.set_cons_zero, List.set_cons_succ, zaL, zaN]
     rfl
    refine one_ (i := 6) (N := some 17) #[true, true, true, true, true, true, true, false, false, false] rfl rfl (zbK HT_.out (by kernel_rfl)) (by decide) (fun K hK => ?_)
    refine zce Tryd.func50 (by kernel_rfl) rfl #[.slice Ao14 t198.length co14, .slice Ao15 t201.length co15] (by rfl) rfl rfl (by (try simp only [List.map_toArray, List.map_cons, List.map_nil]); first | done | rfl | (simp only [List.length_drop, List.length_take]; rfl)) ?_
    with_reducible refine (zaR.calls kj1 (fun k_ => some k_ = (.slice Ao14 t198.length co14 : Value).ownBlock) _ _ t198 (fun k_ => some k_ = (.slice Ao15 t201.length co15 : Value).ownBlock) _ _ t201 t204 _ ?side1 ?side2 A10.out).mono ?_
    (case side1 => exact Kd.R_V (Kd.zcB rfl (Kd.zb0 (HO200.out) BK197.out (by decide))))
    (case side2 => exact Kd.R_V (Kd.zcB rfl (Kd.zb0 (HO203.out) BK197.out (by decide))))
    rintro e w16 ⟨v205, rfl, ho0, hb⟩
    refine ⟨_, rfl, ?_⟩
    have n0_ := Aside0.mk (Kd.zbM (by (with_reducible repeat (first | apply Kd.zaw | apply Kd.zax | apply Kd.zaE)); exact HO200.out) hb)
    have n1_ := Aside0.mk (Kd.zbM (by (with_reducible repeat (first | apply Kd.zaw | apply Kd.zax | apply Kd.zaE)); exact HO203.out) hb)
    have n2_ := Aside0.mk (Kd.zgp (Kd.zcQ (ok' := fun k_ => k_ ≠ gb197) ho0 (fun k_ hk_ => Or.elim hk_ (fun hs_ => Or.elim hs_ (fun hs_ => ((Kd.zb0 (HO200.out) BK197.out (by decide)).1 k_ hs_.symm).2) (fun hs_ => ((Kd.zb0 (HO203.out) BK197.out (by decide)).1 k_ hs_.symm).2)) (fun hn_ => (Kd.zf6 (g := gb197) (o := .cells #[.int .i64 a0_0, .int .i64 a0_1] 24 (0, 0)) (by (with_reducible repeat (first | apply zae | apply zai | apply zad)); exact BK197.out) k_ hn_)))) (zao (by repeat (first | (with_reducible first | exact HB.out | apply zac | apply zaa | apply zaf | refine zab ?_ GE197.out) | exact HB.out))))
    have n3_ := Aside0.mk (zaj (g := gb197) (o := .cells #[.int .i64 a0_0, .int .i64 a0_1] 24 (0, 0)) (by (with_reducible repeat (first | apply zae | apply zai | apply zad)); exact BK197.out) hb)
    have n4_ := Aside0.mk (zam (by repeat (first | (with_reducible first | exact HB.out | apply zac | apply zaa | apply zaf | refine zab ?_ GE197.out) | exact HB.out)) hb)
    clear HO200 HO203 BK197 HB
    have HO200 := n0_
    have HO203 := n1_
    have HO206 := n2_
    have BK197 := n3_
    have HB := n4_
    clear n0_ n1_ n2_ n3_ n4_
    (try clear hb)
    (try clear hb2)
    (try clear hk)
    (try clear hi)
    (try clear ho0)
    obtain ⟨Ao17, co17, eo17⟩ := Kd.zdD HO206.out
    (first | subst eo17 | (injection eo17 with f1_ f2_ f3_; have f4_ := f1_.symm; have f5_ := f3_.symm; clear f1_ f2_ f3_; subst f4_; subst f5_))
    refine hK.out _ _ ⟨(zak BK197.out 0).trans rfl, (zak BK197.out 1).trans rfl⟩ (fun hHeld => ?_)
    clear hK K
    refine zbE (a' := ?_) ?_ ?_
    rotate_left
    ·show Act.put _ (some 17) _ = _
     simp only [Act.put, List.setIfInBounds_toArray, List.set_cons_zero, List.set_cons_succ, zaL, zaN]
     rfl
    refine zbB (i := 7) (N := some 18) (v := ?_) (a' := ?_) #[true, true, true, true, true, true, true, true, false, false] rfl rfl (zbm HT_.out (by kernel_rfl)) (fun _ _ _ h => h) (Or.inl ⟨by rfl, ?_⟩) ?_ ?_
    rotate_left
    ·intro w'
     go_simp
     with_reducible rfl
    rotate_left
    ·simp only [Act.put, List.setIfInBounds_toArray, List.set_cons_zero, List.set_cons_succ, zaL, zaN]
     rfl
    refine zbB (i := 8) (N := some 19) (v := ?_) (a' := ?_) #[true, true, true, true, true, true, true, true, true, false] rfl rfl (zbm HT_.out (by kernel_rfl)) (fun _ _ _ h => h) (Or.inl ⟨by rfl, ?_⟩) ?_ ?_
    rotate_left
    ·intro w'
     go_simp
     with_reducible rfl
    rotate_left
    ·simp only [Act.put, List.setIfInBounds_toArray, List.set_cons_zero, List.set_cons_succ, zaL, zaN]
     rfl
    refine zbB (i := 9) (N := some 2) (v := ?_) (a' := ?_) #[true, true, true, true, true, true, true, true, true, true] rfl rfl (zbm HT_.out (by kernel_rfl)) (fun _ _ _ h => h) (Or.inl ⟨by rfl, ?_⟩) ?_ ?_
    rotate_left
    ·intro w'
     go_simp
     with_reducible rfl
    rotate_left
    ·simp only [Act.put, List.setIfInBounds_toArray, List.set_cons_zero, List.set_cons_succ, zaL, zaN]
     rfl
    refine zdK (zcu HT_.out (by kernel_rfl)) ?_
    try go_wp2
    go_ret
    exact ⟨by first | rfl | (simp [zas, zar] <;> rfl) | (simp [*, zas, zar] <;> rfl), by repeat (first | (with_reducible first | exact HB.out | apply zac | apply zaa | apply zaf | refine zab ?_ GE197.out) | exact HB.out)⟩
end Go.Proofs.YtijhnmbegceonaaDoor.PRef
namespace Go.Proofs.YtijhnmbegceonaaDoor.PRef
open Go.RowKit Go.Proofs.YtijhnmbegceonaaDoorW.PrintWords Go.Proofs.YtijhnmbegceonaaDoorW.PrintLast Go.Proofs.YtijhnmbegceonaaDoorW.PrintMore
attribute [local go_sem] zbr zbp zbz zby zbh zbg zbq zbo
set_option linter.unusedVariables false
set_option linter.unusedSimpArgs false
def zbi.f (k : Nat) (a0_0 : Int) (a0_1 : Int) : Option (List Bool × List Bool × Bool) := (za6.f k a0_0).bind fun t209 => ((za6.f k a0_1).bind fun t212 => (some (t209, t212, decide (a0_0 < 0))))
def zbi.T1 : Bool × List (List Nat × List Nat) := (true, [([], []), ([0], [0]), ([1], [1]), ([], []), ([3], [3]), ([4, 2], [4]), ([], []), ([6], [6]), ([7], [7]), ([2, 5, 8], [2, 5, 8]), ([9, 5, 0, 1, 2, 3, 4, 5, 6, 7, 8, 9], [9])])
def zbi.B1 : List Nat := [0, 1, 3, 0, 8, 31, 0, 64, 192, 511, 1023]
theorem zbi.tab1 : rtab .any (opsOf Tryd.f46 1) = zbi.T1 := by kernel_rfl
theorem zbi.bits1 : zcb zbi.T1.2 zbi.B1 = true := by kernel_rfl
set_option maxHeartbeats 8000000 in
set_option maxRecDepth 100000 in
theorem zbi.calls (k : Nat) (a0_0 : Int) (a0_1 : Int) (r1 : List Bool) (r2 : List Bool) (r3 : Bool) (w : World) (h : zbi.f k a0_0 a0_1 = some (r1, r2, r3)) :
  Calls Tryd.prog 46 #[.agg #[.int .i64 a0_0, .int .i64 a0_1]] w fun e w' => ∃ v0_ v1_ : Value, e = .returned (.agg #[v0_, v1_, .bool r3]) ∧ Kd.R Kd.bool 4 w' w.heap.size (fun k_ => some k_ ≠ (v1_ : Value).ownBlock) v0_ r1 ∧ Kd.R Kd.bool 4 w' w.heap.size (fun k_ => some k_ ≠ (v0_ : Value).ownBlock) v1_ r2 ∧ Below w.heap.size w w' := by
 have hu24 := Tryd.underlying24
 have hu62 := Tryd.underlying62
 have HB := Aside0.mk (Below.refl w.heap.size w)
 have H : ((za6.f k a0_0).bind fun t209 => ((za6.f k a0_1).bind fun t212 => (some (t209, t212, decide (a0_0 < 0))))) = some (r1, r2, r3) := h
 clear h
 replace H := Option.bind_eq_some_iff.mp H
 obtain ⟨t209, A20, H⟩ := H
 replace H : ((za6.f k a0_1).bind fun t212 => (some (t209, t212, decide (a0_0 < 0)))) = some (r1, r2, r3) := H
 have A2 := Aside0.mk A20
 clear A20
 replace H := Option.bind_eq_some_iff.mp H
 obtain ⟨t212, A30, H⟩ := H
 replace H : (some (t209, t212, decide (a0_0 < 0))) = some (r1, r2, r3) := H
 have A3 := Aside0.mk A30
 clear A30
 simp only [Option.some.injEq, Prod.mk.injEq] at H
 obtain ⟨rfl, rfl, rfl⟩ := H
 go_enter Tryd.func46, Tryd.ntmps46
 try go_wp2_with (first | ((with_reducible refine zaK (N := 1) rfl ?_); refine zaI ?hg (N := 1) ?hd (cs := #[.int .i64 a0_0, .int .i64 a0_1]) (t := 24) ?hr ?_; (case hd => rfl); (case hg => rfl); (case hr => first | (go_simp; done) | (go_simp; rfl)); intro gb207 hg w4 hbox hb; have n0_ := Aside0.mk (zam (by repeat (first | (with_reducible first | exact HB.out | apply zac | apply zaa | apply zaf) | exact HB.out)) hb); have n1_ := Aside0.mk (hbox); have n2_ := Aside0.mk ((by rw [hg]; exact (zao (by repeat (first | (with_reducible first | exact HB.out | apply zac | apply zaa | apply zaf) | exact HB.out))) : w.heap.size ≤ gb207)); have n3_ := n2_; clear HB; have HB := n0_; have BK207 := n1_; have GW207 := n2_; have GE207 := n3_; clear n0_ n1_ n2_ n3_; clear hb hbox hg) | ((with_reducible refine zaK (N := 2) rfl ?_); refine zaI ?hg (N := 2) ?hd (cs := #[.slice none 0 0, .slice none 0 0, .bool false]) (t := 62) ?hr ?_; (case hd => rfl); (case hg => rfl); (case hr => first | (go_simp; done) | (go_simp; rfl)); intro gb208 hg w5 hbox hb; have n0_ := Aside0.mk (zaj (g := gb207) (o := .cells #[.int .i64 a0_0, .int .i64 a0_1] 24 (0, 0)) (by (with_reducible repeat (first | apply zae | apply zai | apply zad)); exact BK207.out) hb); have n1_ := Aside0.mk (zam (by repeat (first | (with_reducible first | exact HB.out | apply zac | apply zaa | apply zaf | refine zab ?_ GE207.out) | exact HB.out)) hb); have n2_ := Aside0.mk (hbox); have n3_ := Aside0.mk ((by rw [hg]; exact (zao (by repeat (first | (with_reducible first | exact HB.out | apply zac | apply zaa | apply zaf | refine zab ?_ GE207.out) | exact HB.out))) : w.heap.size ≤ gb208)); have n4_ := n3_; have n5_ := Aside0.mk ((by rw [hg]; exact Nat.ne_of_lt (za3 (g := gb207) (o := .cells #[.int .i64 a0_0, .int .i64 a0_1] 24 (0, 0)) (by (with_reducible repeat (first | apply zae | apply zai | apply zad)); exact BK207.out)) : gb207 ≠ gb208)); have n6_ := Aside0.mk n5_.out.symm; clear BK207; clear HB; have BK207 := n0_; have HB := n1_; have BK208 := n2_; have GW208 := n3_; have GE208 := n4_; have NB207_208 := n5_; have NB208_207 := n6_; clear n0_ n1_ n2_ n3_ n4_ n5_ n6_; clear hb hbox hg))
 have n0_ := Aside0.mk (zai BK207.out)
 have n1_ := Aside0.mk (zai BK208.out)
 have n2_ := Aside0.mk (zaf HB.out)
 clear BK207 BK208 HB
 have BK207 := n0_
 have BK208 := n1_
 have HB := n2_
 clear n0_ n1_ n2_
 refine zcP (n := 11) (S := fun w' => w'.cell? ⟨gb207, 0, none⟩ = some (.int .i64 a0_0) ∧ w'.cell? ⟨gb207, 1, none⟩ = some (.int .i64 a0_1)) (ds := []) #[false, false, false, false, false, false, false, false, false, false, false] (by kernel_rfl) rfl rfl ⟨(zak BK207.out 0).trans rfl, (zak BK207.out 1).trans rfl⟩ (fun hHeld => ?_); refine zb8 zbi.tab1 zbi.bits1 (fun HT_ HW_ => ?_)
 generalize w5.drew = w6 at BK207 BK208 HB hHeld ⊢
 refine zbB (i := 0) (N := some 3) (v := ?_) (a' := ?_) #[true, false, false, false, false, false, false, false, false, false, false] rfl rfl (zbm HT_.out (by kernel_rfl)) (fun _ _ _ h => h) (Or.inl ⟨by rfl, ?_⟩) ?_ ?_
 rotate_left
 ·intro w'
  go_simp
  with_reducible rfl
 rotate_left
 ·simp only [Act.put, List.setIfInBounds_toArray, List.set_cons_zero, List.set_cons_succ, zaL, zaN]
  rfl
 refine zbB (i := 3) (N := some 6) (v := ?_) (a' := ?_) #[true, false, false, true, false, false, false, false, false, false, false] rfl rfl (zbm HT_.out (by kernel_rfl)) (fun _ _ _ h => h) (Or.inl ⟨by rfl, ?_⟩) ?_ ?_
 rotate_left
 ·intro w'
  go_simp
  with_reducible rfl
 rotate_left
 ·simp only [Act.put, List.setIfInBounds_toArray, List.set_cons_zero, List.set_cons_succ, zaL, zaN]
  rfl
 refine zbB (i := 6) (N := some 9) (v := ?_) (a' := ?_) #[true, false, false, true, false, false, true, false, false, false, false] rfl rfl (zbm HT_.out (by kernel_rfl)) (fun _ _ _ h => h) (Or.inl ⟨by rfl, ?_⟩) ?_ ?_
 rotate_left
 ·intro w'
  go_simp
  with_reducible rfl
 rotate_left
 ·simp only [Act.put, List.setIfInBounds_toArray, List.set_cons_zero, List.set_cons_succ, zaL, zaN]
  rfl
 refine zb4 (i := 1) (N := some 4) (v := ?_) (a' := ?_) #[true, true, false, true, false, false, true, false, false, false, false] rfl rfl (zbv HT_.out HW_.out (by kernel_rfl)) (fun _ _ _ h => h) (Or.inl ⟨by rfl, ?_⟩) hHeld ?_ ?_
 rotate_left
 ·rintro w' ⟨s0, s1⟩
  go_simp
  with_reducible rfl
 rotate_left
 ·simp only [Act.put, List.setIfInBounds_toArray, List.set_cons_zero, List.set_cons_succ, zaL, zaN]
  rfl
 refine zb4 (i := 4) (N := some 7) (v := ?_) (a' := ?_) #[true, true, false, true, true, false, true, false, false, false, false] rfl rfl (zbv HT_.out HW_.out (by kernel_rfl)) (fun _ _ _ h => h) (Or.inl ⟨by rfl, ?_⟩) hHeld ?_ ?_
 rotate_left
 ·rintro w' ⟨s0, s1⟩
  go_simp
  with_reducible rfl
 rotate_left
 ·simp only [Act.put, List.setIfInBounds_toArray, List.set_cons_zero, List.set_cons_succ, zaL, zaN]
  rfl
 refine zb4 (i := 7) (N := some 10) (v := ?_) (a' := ?_) #[true, true, false, true, true, false, true, true, false, false, false] rfl rfl (zbv HT_.out HW_.out (by kernel_rfl)) (fun _ _ _ h => h) (Or.inl ⟨by rfl, ?_⟩) hHeld ?_ ?_
 rotate_left
 ·rintro w' ⟨s0, s1⟩
  go_simp
  with_reducible rfl
 rotate_left
 ·simp only [Act.put, List.setIfInBounds_toArray, List.set_cons_zero, List.set_cons_succ, zaL, zaN]
  rfl
 refine zbB (i := 8) (N := some 11) (v := ?_) (a' := ?_) #[true, true, false, true, true, false, true, true, true, false, false] rfl rfl (zbm HT_.out (by kernel_rfl)) (fun _ _ _ h => h) (Or.inl ⟨by rfl, ?_⟩) ?_ ?_
 rotate_left
 ·intro w'
  go_simp
  with_reducible rfl
 rotate_left
 ·simp only [Act.put, List.setIfInBounds_toArray, List.set_cons_zero, List.set_cons_succ, zaL, zaN]
  rfl
 refine one_ (i := 2) (N := some 5) #[true, true, true, true, true, false, true, true, true, false, false] rfl rfl (zbK HT_.out (by kernel_rfl)) (by decide) (fun K hK => ?_)
 refine zce Tryd.func51 (by kernel_rfl) rfl #[.int .i64 a0_0] (by rfl) rfl rfl (by (try simp only [List.map_toArray, List.map_cons, List.map_nil]); first | done | rfl | (simp only [List.length_drop, List.length_take]; rfl)) ?_
 with_reducible refine (za6.calls k a0_0 t209 _ A2.out).mono ?_
 rintro e w7 ⟨v210, rfl, ho0, hb⟩
 refine ⟨_, rfl, ?_⟩
 have n0_ := Aside0.mk (Kd.zbF ho0 (zao (by repeat (first | (with_reducible first | exact HB.out | apply zac | apply zaa | apply zaf | refine zab ?_ GE207.out | refine zab ?_ GE208.out) | exact HB.out))))
 have n1_ := Aside0.mk (zaj (g := gb207) (o := .cells #[.int .i64 a0_0, .int .i64 a0_1] 24 (0, 0)) (by (with_reducible repeat (first | apply zae | apply zai | apply zad)); exact BK207.out) hb)
 have n2_ := Aside0.mk (zaj (g := gb208) (o := .cells #[.slice none 0 0, .slice none 0 0, .bool false] 62 (0, 0)) (by (with_reducible repeat (first | apply zae | apply zai | apply zad)); exact BK208.out) hb)
 have n3_ := Aside0.mk (zam (by repeat (first | (with_reducible first | exact HB.out | apply zac | apply zaa | apply zaf | refine zab ?_ GE207.out | refine zab ?_ GE208.out) | exact HB.out)) hb)
 clear BK207 BK208 HB
 have HO211 := n0_
 have BK207 := n1_
 have BK208 := n2_
 have HB := n3_
 clear n0_ n1_ n2_ n3_
 (try clear hb)
 (try clear hb2)
 (try clear hk)
 (try clear hi)
 (try clear ho0)
 refine hK.out _ _ ⟨(zak BK207.out 0).trans rfl, (zak BK207.out 1).trans rfl⟩ (fun hHeld => ?_)
 clear hK K
 refine zbE (a' := ?_) ?_ ?_
 rotate_left
 ·show Act.put _ (some 5) _ = _
  simp only [Act.put, List.setIfInBounds_toArray, List.set_cons_zero, List.set_cons_succ, zaL, zaN]
  rfl
 refine one_ (i := 5) (N := some 8) #[true, true, true, true, true, true, true, true, true, false, false] rfl rfl (zbK HT_.out (by kernel_rfl)) (by decide) (fun K hK => ?_)
 refine zce Tryd.func51 (by kernel_rfl) rfl #[.int .i64 a0_1] (by rfl) rfl rfl (by (try simp only [List.map_toArray, List.map_cons, List.map_nil]); first | done | rfl | (simp only [List.length_drop, List.length_take]; rfl)) ?_
 with_reducible refine (za6.calls k a0_1 t212 _ A3.out).mono ?_
 rintro e w8 ⟨v213, rfl, ho0, hb⟩
 refine ⟨_, rfl, ?_⟩
 have n0_ := Aside0.mk (Kd.zbG (by (with_reducible repeat (first | apply Kd.zaw | apply Kd.zax | apply Kd.zaE)); exact HO211.out) (Kd.zbJ ho0) hb)
 have n1_ := Aside0.mk (Kd.zbF (Kd.zbU ho0 (Kd.R_lt (by (with_reducible repeat (first | apply Kd.zaw | apply Kd.zax | apply Kd.zaE)); exact HO211.out))) (zao (by repeat (first | (with_reducible first | exact HB.out | apply zac | apply zaa | apply zaf | refine zab ?_ GE207.out | refine zab ?_ GE208.out) | exact HB.out))))
 have n2_ := Aside0.mk (zaj (g := gb207) (o := .cells #[.int .i64 a0_0, .int .i64 a0_1] 24 (0, 0)) (by (with_reducible repeat (first | apply zae | apply zai | apply zad)); exact BK207.out) hb)
 have n3_ := Aside0.mk (zaj (g := gb208) (o := .cells #[.slice none 0 0, .slice none 0 0, .bool false] 62 (0, 0)) (by (with_reducible repeat (first | apply zae | apply zai | apply zad)); exact BK208.out) hb)
 have n4_ := Aside0.mk (zam (by repeat (first | (with_reducible first | exact HB.out | apply zac | apply zaa | apply zaf | refine zab ?_ GE207.out | refine zab ?_ GE208.out) | exact HB.out)) hb)
 clear HO211 BK207 BK208 HB
 have HO211 := n0_
 have HO214 := n1_
 have BK207 := n2_
 have BK208 := n3_
 have HB := n4_
 clear n0_ n1_ n2_ n3_ n4_
 (try clear hb)
 (try clear hb2)
 (try clear hk)
 (try clear hi)
 (try clear ho0)
 obtain ⟨Ao9, co9, eo9⟩ := Kd.zbx HO214.out
 (first | subst eo9 | (injection eo9 with f1_ f2_ f3_; have f4_ := f1_.symm; have f5_ := f3_.symm; clear f1_ f2_ f3_; subst f4_; subst f5_))
 obtain ⟨Ao10, co10, eo10⟩ := Kd.zbx HO211.out
 (first | subst eo10 | (injection eo10 with f1_ f2_ f3_; have f4_ := f1_.symm; have f5_ := f3_.symm; clear f1_ f2_ f3_; subst f4_; subst f5_))
 refine hK.out _ _ ⟨(zak BK207.out 0).trans rfl, (zak BK207.out 1).trans rfl⟩ (fun hHeld => ?_)
 clear hK K
 refine zbE (a' := ?_) ?_ ?_
 rotate_left
 ·show Act.put _ (some 8) _ = _
  simp only [Act.put, List.setIfInBounds_toArray, List.set_cons_zero, List.set_cons_succ, zaL, zaN]
  rfl
 refine zbB (i := 9) (N := some 12) (v := ?_) (a' := ?_) #[true, true, true, true, true, true, true, true, true, true, false] rfl rfl (zbm HT_.out (by kernel_rfl)) (fun _ _ _ h => h) (Or.inl ⟨by rfl, ?_⟩) ?_ ?_
 rotate_left
 ·intro w'
  go_simp
  with_reducible rfl
 rotate_left
 ·simp only [Act.put, List.setIfInBounds_toArray, List.set_cons_zero, List.set_cons_succ, zaL, zaN]
  rfl
 refine one_ (i := 10) (N := none) #[true, true, true, true, true, true, true, true, true, true, true] rfl rfl (zbK HT_.out (by kernel_rfl)) (by decide) (fun K hK => ?_)
 have hs11 : w8.cell? ⟨gb208, 0, none⟩ = some (.slice none 0 0) := (zak BK208.out 0).trans rfl
 have hfs11 := zah BK208.out 0
 have hns11_0 := NB207_208.out
 have hms11_0 := NB208_207.out
 have hs12 : w8.cell? ⟨gb208, 1, none⟩ = some (.slice none 0 0) := (zak BK208.out 1).trans rfl
 have hfs12 := zah BK208.out 1
 have hns12_0 := NB207_208.out
 have hms12_0 := NB208_207.out
 have hs13 : w8.cell? ⟨gb208, 2, none⟩ = some (.bool false) := (zak BK208.out 2).trans rfl
 have hfs13 := zah BK208.out 2
 have hns13_0 := NB207_208.out
 have hms13_0 := NB208_207.out
 refine zd1 (w1 := ?_) (by rfl) rfl ?_ ?_
 rotate_left
 ·go_simp
  rfl
 refine hK.out _ _ ⟨((cell_far (p := ⟨gb208, _, none⟩) NB207_208.out _).trans (((cell_far (p := ⟨gb208, _, none⟩) NB207_208.out _).trans (((cell_far (p := ⟨gb208, _, none⟩) NB207_208.out _).trans (hHeld.1)))))), ((cell_far (p := ⟨gb208, _, none⟩) NB207_208.out _).trans (((cell_far (p := ⟨gb208, _, none⟩) NB207_208.out _).trans (((cell_far (p := ⟨gb208, _, none⟩) NB207_208.out _).trans (hHeld.2))))))⟩ (fun hHeld => ?_)
 clear hK K
 refine zdK (zcu HT_.out (by kernel_rfl)) ?_
 try go_wp2
 refine bodyPost_ret (results_cell_row rfl _ _ gb208 62 #[.slice Ao10 t209.length co10, .slice Ao9 t212.length co9, .bool (decide (a0_0 < 0))] (0, 0) _ rfl (by (with_reducible repeat (first | apply zae | apply zai | apply zad)); refine zay (cs := #[.slice Ao10 t209.length co10, .slice Ao9 t212.length co9, .bool false]) ?_ 2 _ rfl; (with_reducible repeat (first | apply zae | apply zai | apply zad)); refine zay (cs := #[.slice Ao10 t209.length co10, .slice none 0 0, .bool false]) ?_ 1 _ rfl; (with_reducible repeat (first | apply zae | apply zai | apply zad)); refine zay (cs := #[.slice none 0 0, .slice none 0 0, .bool false]) ?_ 0 _ rfl; (with_reducible repeat (first | apply zae | apply zai | apply zad)); exact BK208.out) Tryd.underlying62 rfl (by kernel_rfl)) rfl ?_
 exact ⟨_, _, by first | rfl | (simp [zas, zar] <;> rfl) | (simp [*, zas, zar] <;> rfl), by (with_reducible repeat (first | apply Kd.zaw | apply Kd.zax | apply Kd.zaE)); exact Kd.zbj (Kd.zbN (p := ⟨gb208, 2, none⟩) (Kd.zbN (p := ⟨gb208, 1, none⟩) (Kd.zbN (p := ⟨gb208, 0, none⟩) (Kd.zb0 HO211.out BK208.out (by decide)) (fun _ hk => hk.2) (.slice Ao10 t209.length co10)) (fun _ hk => hk.2) (.slice Ao9 t212.length co9)) (fun _ hk => hk.2) (.bool (decide (a0_0 < 0)))) (fun _ hk => hk.1.2), by (with_reducible repeat (first | apply Kd.zaw | apply Kd.zax | apply Kd.zaE)); exact Kd.zbj (Kd.zbN (p := ⟨gb208, 2, none⟩) (Kd.zbN (p := ⟨gb208, 1, none⟩) (Kd.zbN (p := ⟨gb208, 0, none⟩) (Kd.zb0 HO214.out BK208.out (by decide)) (fun _ hk => hk.2) (.slice Ao10 t209.length co10)) (fun _ hk => hk.2) (.slice Ao9 t212.length co9)) (fun _ hk => hk.2) (.bool (decide (a0_0 < 0)))) (fun _ hk => hk.1.2), by repeat (first | (with_reducible first | exact HB.out | apply zac | apply zaa | apply zaf | refine zab ?_ GE207.out | refine zab ?_ GE208.out) | exact HB.out)⟩
def zaD.l0 : Nat → List Bool → Int → Int → Option (Int × Bool)
 | 0, _, _, _ => none
 | k + 1, x0, x4, x5 => if x5 ≥ 0 then (if 0 ≤ x5 then (if x5 < (x0.length : Int) then (if rdOf false x0 x5 = true then (zaD.l0 k x0 (wrap64 ((wrap64 (2 * x4)) + 1)) (wrap64 (x5 - 1))) else (zaD.l0 k x0 (wrap64 (2 * x4)) (wrap64 (x5 - 1)))) else (none)) else (none)) else (some (x4, true))
def zaD.f (k : Nat) (l0 : List Bool) : Option (Int × Bool) := if (l0.length : Int) > 63 then (some (0, false)) else (zaD.l0 k l0 0 (wrap64 ((l0.length : Int) - 1)))
set_option maxHeartbeats 8000000 in
set_option maxRecDepth 100000 in
theorem zaD.calls (k : Nat) (A0 : Option Addr) (c0 : Nat) (l0 : List Bool) (r1 : Int) (r2 : Bool) (w : World) (hr0 : Kd.C Kd.bool w A0 l0.length l0) (hc0 : l0.length ≤ c0) (h : zaD.f k l0 = some (r1, r2)) :
  Calls Tryd.prog 68 #[.slice A0 l0.length c0] w fun e w' => e = .returned (.tuple #[.int .i64 r1, .bool r2]) ∧ zaP w w' := by
 have HR0 := Aside0.mk hr0
 have HC0 := Aside0.mk hc0
 clear hr0 hc0
 have H : (if (l0.length : Int) > 63 then (some (0, false)) else (zaD.l0 k l0 0 (wrap64 ((l0.length : Int) - 1)))) = some (r1, r2) := h
 clear h
 by_cases c2 : (l0.length : Int) > 63
 ·rw [if_pos c2] at H
  have c2b0 : decide (63 < (l0.length : Int)) = true := decide_eq_true c2
  have c2b1 : decide (63 < l0.length) = true := decide_eq_true (by omega)
  clear c2
  simp only [Option.some.injEq, Prod.mk.injEq] at H
  obtain ⟨rfl, rfl⟩ := H
  go_enter Tryd.func68, Tryd.ntmps68
  go_wp2
  go_ret2
  exact ⟨by first | rfl | (simp; done) | (simp [*]; done), by repeat (first | exact zaP.refl _ | apply zaP.step)⟩
 ·rw [if_neg c2] at H
  have c2b0 : decide (63 < (l0.length : Int)) = false := decide_eq_false c2
  have c2b1 : decide (63 < l0.length) = false := decide_eq_false (by omega)
  clear c2
  have H' := Aside0.mk H
  clear H
  go_enter Tryd.func68, Tryd.ntmps68
  go_wp2
  go_loopg [4, 5] k (fun kq v4 v5 w' => ∃ (x4_1 : Int) (x5_1 : Int), v4 = .int .i64 x4_1 ∧ v5 = .int .i64 x5_1 ∧ Aside0 (zaD.l0 kq l0 x4_1 x5_1 = some (r1, r2)) ∧ Aside0 (kq ≤ k) ∧ zaP w w')
  case atStart => exact ⟨(0), (wrap64 ((l0.length : Int) - 1)), (by first | rfl | (simp; done) | (simp [*]; done)), (by first | rfl | (simp; done) | (simp [*]; done)), H', ⟨Nat.le_refl _⟩, by repeat (first | exact zaP.refl _ | apply zaP.step)⟩
  case round =>
   clear H'
   (try clear c2); (try clear c2b0); (try clear c2b1); (try clear p2)
   obtain ⟨x4_1, x5_1, rfl, rfl, HA, HK1, ⟨m1, rfl⟩⟩ := hrel
   cases gk with
   | zero => exact absurd HA.out (by simp [zaD.l0])
   | succ k1 =>
    have H := HA.out
    clear HA
    simp only [zaD.l0] at H
    by_cases c3 : x5_1 ≥ 0
    ·rw [if_pos c3] at H
     have c3b0 : decide (0 ≤ x5_1) = true := decide_eq_true c3
     clear c3
     by_cases c4 : 0 ≤ x5_1
     ·rw [if_pos c4] at H
      have c4b0 : decide (0 ≤ x5_1) = true := decide_eq_true c4
      clear c4
      by_cases c5 : x5_1 < (l0.length : Int)
      ·rw [if_pos c5] at H
       have c5b0 : decide (x5_1 < (l0.length : Int)) = true := decide_eq_true c5
       clear c5
       obtain ⟨bq6, hbq6⟩ : ∃ b_ : Bool, b_ = (rdOf false l0 x5_1) := ⟨_, rfl⟩
       replace H : (if bq6 = true then (zaD.l0 k1 l0 (wrap64 ((wrap64 (2 * x4_1)) + 1)) (wrap64 (x5_1 - 1))) else (zaD.l0 k1 l0 (wrap64 (2 * x4_1)) (wrap64 (x5_1 - 1)))) = some (r1, r2) := by rw [← hbq6] at H; exact H
       have Nbq6 := Aside0.mk hbq6
       clear hbq6
       by_cases c7 : bq6 = true
       ·subst c7
        have H1 : (zaD.l0 k1 l0 (wrap64 ((wrap64 (2 * x4_1)) + 1)) (wrap64 (x5_1 - 1))) = some (r1, r2) := by rw [if_pos rfl] at H; exact H
        clear H
        have H := H1
        clear H1
        have H' := Aside0.mk H
        clear H
        have p215 : 0 ≤ (x5_1 : Int) := of_decide_eq_true (by first | (with_reducible assumption) | assumption)
        have q215 : x5_1 < (l0.length : Int) := of_decide_eq_true (by first | (with_reducible assumption) | assumption)
        obtain ⟨ad215, e215, hx215_0⟩ := Kd.zcg HR0.out x5_1 p215 q215
        (try rw [← Nbq6.out] at hx215_0)
        cases e215
        replace p215 := eq_true p215
        replace q215 := eq_true q215
        go_wp2
        go_roundg k1
        case measure => have := HK1.out; omega
        case rel => exact ⟨(wrap64 ((wrap64 (2 * x4_1)) + 1)), (wrap64 (x5_1 - 1)), (by first | rfl | (simp; done) | (simp [*]; done)), (by first | rfl | (simp; done) | (simp [*]; done)), H', ⟨by have := HK1.out; omega⟩, by repeat (first | exact zaP.refl _ | apply zaP.step)⟩
       ·replace c7 := Bool.eq_false_iff.mpr c7
        subst c7
        have H1 : (zaD.l0 k1 l0 (wrap64 (2 * x4_1)) (wrap64 (x5_1 - 1))) = some (r1, r2) := by rw [if_neg (show ¬ (false = true) by decide)] at H; exact H
        clear H
        have H := H1
        clear H1
        have H' := Aside0.mk H
        clear H
        have p215 : 0 ≤ (x5_1 : Int) := of_decide_eq_true (by first | (with_reducible assumption) | assumption)
        have q215 : x5_1 < (l0.length : Int) := of_decide_eq_true (by first | (with_reducible assumption) | assumption)
        obtain ⟨ad215, e215, hx215_0⟩ := Kd.zcg HR0.out x5_1 p215 q215
        (try rw [← Nbq6.out] at hx215_0)
        cases e215
        replace p215 := eq_true p215
        replace q215 := eq_true q215
        go_wp2
        go_roundg k1
        case measure => have := HK1.out; omega
        case rel => exact ⟨(wrap64 (2 * x4_1)), (wrap64 (x5_1 - 1)), (by first | rfl | (simp; done) | (simp [*]; done)), (by first | rfl | (simp; done) | (simp [*]; done)), H', ⟨by have := HK1.out; omega⟩, by repeat (first | exact zaP.refl _ | apply zaP.step)⟩
      ·rw [if_neg c5] at H
       exact absurd H (by simp)
     ·rw [if_neg c4] at H
      exact absurd H (by simp)
    ·rw [if_neg c3] at H
     have c3b0 : decide (0 ≤ x5_1) = false := decide_eq_false c3
     clear c3
     simp only [Option.some.injEq, Prod.mk.injEq] at H
     obtain ⟨rfl, rfl⟩ := H
     go_wp2
     go_ret2
     exact ⟨by first | rfl | (simp; done) | (simp [*]; done), by repeat (first | exact zaP.refl _ | apply zaP.step)⟩
end Go.Proofs.YtijhnmbegceonaaDoor.PRef
