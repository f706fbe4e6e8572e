-- Words and walks, cut to what this law uses (wip/pack.py).
import Derived.Test.YtijhnmbegceonaaDoorValX14
import Derived.Test.YtijhnmbegceonaaDoorValX15
namespace Go.Proofs.YtijhnmbegceonaaDoor.PTerm
open Go.RowKit Go.Proofs.YtijhnmbegceonaaDoorW.PrintWords Go.Proofs.YtijhnmbegceonaaDoorW.PrintLast Go.Proofs.YtijhnmbegceonaaDoorW.PrintMore
attribute [local go_sem] zbr zbp zbz zby zbh zbg zbq zbo
set_option linter.unusedVariables false
set_option linter.unusedSimpArgs false
mutual
def zan.l0 : Nat → List (S24) → Int → List (S24) → Int → Int → Option (Int × Int × Int)
 | 0, _, _, _, _, _ => none
 | k + 1, x1, x6, x295000, x295001, x295002 => if x6 < (x1.length : Int) then (zan.j1 k x1 x6 (decide (x6 < 8)) x295000 x295001 x295002) else (zan.j1 k x1 x6 false x295000 x295001 x295002)
def zan.j1 : Nat → List (S24) → Int → Bool → List (S24) → Int → Int → Option (Int × Int × Int)
 | 0, _, _, _, _, _, _ => none
 | k + 1, x1, x6, x22, x295000, x295001, x295002 => if x22 = true then (if 0 ≤ x6 then (if x6 < (x1.length : Int) then ((zaz.f ((zaC x1 x6).f0) ((zaC x1 x6).f1)).bind fun t298 => (if t298 = true then (zan.l0 k x1 (wrap64 (x6 + 1)) x295000 x295001 x295002) else (some (0, 0, 2)))) else (none)) else (none)) else (zan.l1 k x1 0 x295000 x295001 x295002 x295001 x295002)
def zan.l1 : Nat → List (S24) → Int → List (S24) → Int → Int → Int → Int → Option (Int × Int × Int)
 | 0, _, _, _, _, _, _, _ => none
 | k + 1, x1, x8, x295000, x295001, x295002, x300000, x300001 => if x8 < (x295000.length : Int) then (zan.j3 k x1 x8 (decide (x8 < (x1.length : Int))) x295000 x295001 x295002 x300000 x300001) else (zan.j3 k x1 x8 false x295000 x295001 x295002 x300000 x300001)
def zan.j3 : Nat → List (S24) → Int → Bool → List (S24) → Int → Int → Int → Int → Option (Int × Int × Int)
 | 0, _, _, _, _, _, _, _, _ => none
 | k + 1, x1, x8, x44, x295000, x295001, x295002, x300000, x300001 => if x44 = true then (if 0 ≤ x8 then (if x8 < (x295000.length : Int) then (if x8 < (x1.length : Int) then ((za2.f 2 ((zaC x295000 x8).f0) ((zaC x295000 x8).f1) ((zaC x1 x8).f0) ((zaC x1 x8).f1)).bind fun bt302 => (if bt302.2.2 = 0 then ((za2.f 0 x300000 x300001 bt302.1 bt302.2.1).bind fun bt306 => (if bt306.2.2 = 0 then (zan.l1 k x1 (wrap64 (x8 + 1)) x295000 x295001 x295002 bt306.1 bt306.2.1) else (some (0, 0, bt306.2.2)))) else (some (0, 0, bt302.2.2)))) else (none)) else (none)) else (none)) else (some (x300000, x300001, 0))
end
def zan.f (k : Nat) (l0_0 : List (S24)) (a0_1 : Int) (a0_2 : Int) (l1 : List (S24)) : Option (Int × Int × Int) := (zaX.f k l0_0 a0_1 a0_2).bind fun t296 => (if t296 = true then (zan.l0 k l1 0 l0_0 a0_1 a0_2) else (some (0, 0, 2)))
def zan.T12 : Bool × List (List Nat × List Nat) := (true, [([], []), ([0], [0]), ([], []), ([1, 2], [1, 2]), ([3], [3]), ([], []), ([], []), ([5, 6], [5, 6]), ([7], [7]), ([4, 8], [4, 8]), ([9], [9]), ([10], [10]), ([10], [10]), ([], []), ([13, 11, 9, 0, 1, 2, 3, 4, 5, 6, 7, 8, 9, 10, 11, 13], [11, 13]), ([12, 14, 0, 1, 2, 3, 4, 5, 6, 7, 8, 9, 10, 11, 12, 13, 14], [12])])
def zan.B12 : List Nat := [0, 1, 0, 7, 15, 0, 0, 96, 224, 511, 1023, 2047, 2047, 0, 12287, 32767]
theorem zan.tab12 : rtab .any (opsOf Tryd.f25 12) = zan.T12 := by kernel_rfl
theorem zan.bits12 : zcb zan.T12.2 zan.B12 = true := by kernel_rfl
set_option maxHeartbeats 8000000 in
set_option maxRecDepth 100000 in
theorem zan.calls (k : Nat) (A0_0 : Option Addr) (c0_0 : Nat) (l0_0 : List (S24)) (a0_1 : Int) (a0_2 : Int) (A1 : Option Addr) (c1 : Nat) (l1 : List (S24)) (r1 : Int) (r2 : Int) (r3 : Int) (w : World) (hr0_0 : Kd.C k24 w A0_0 l0_0.length l0_0) (hc0_0 : l0_0.length ≤ c0_0) (hr1 : Kd.C k24 w A1 l1.length l1) (hc1 : l1.length ≤ c1) (h : zan.f k l0_0 a0_1 a0_2 l1 = some (r1, r2, r3)) :
  Calls Tryd.prog 25 #[.agg #[.slice A0_0 l0_0.length c0_0, .int .i64 a0_1, .int .i64 a0_2], .slice A1 l1.length c1] w fun e w' => e = .returned (.tuple #[.agg #[.int .i64 r1, .int .i64 r2], .int .i64 r3]) ∧ Below w.heap.size w w' := by
 have hu26 := Tryd.underlying26
 have hu24 := Tryd.underlying24
 have HR0_0 := Aside0.mk hr0_0
 have HC0_0 := Aside0.mk hc0_0
 clear hr0_0 hc0_0
 have HR1 := Aside0.mk hr1
 have HC1 := Aside0.mk hc1
 clear hr1 hc1
 have HB := Aside0.mk (Below.refl w.heap.size w)
 have H : ((zaX.f k l0_0 a0_1 a0_2).bind fun t296 => (if t296 = true then (zan.l0 k l1 0 l0_0 a0_1 a0_2) else (some (0, 0, 2)))) = some (r1, r2, r3) := h
 clear h
 replace H := Option.bind_eq_some_iff.mp H
 obtain ⟨t296, A30, H⟩ := H
 replace H : (if t296 = true then (zan.l0 k l1 0 l0_0 a0_1 a0_2) else (some (0, 0, 2))) = some (r1, r2, r3) := H
 have A3 := Aside0.mk A30
 clear A30
 by_cases c4 : t296 = true
 ·subst c4
  have H1 : (zan.l0 k l1 0 l0_0 a0_1 a0_2) = some (r1, r2, r3) := by rw [if_pos rfl] at H; exact H
  clear H
  have H := H1
  clear H1
  have H' := Aside0.mk H
  clear H
  go_enter Tryd.func25, Tryd.ntmps25
  go_wp2_with (first | ((with_reducible refine zaK (N := 2) rfl ?_); (try (refine zbn (by rfl) ?_; dsimp only)); refine zaI ?hg (N := 2) ?hd (cs := #[.slice A0_0 l0_0.length c0_0, .int .i64 a0_1, .int .i64 a0_2]) (t := 26) ?hr ?_; (case hd => rfl); (case hg => rfl); (case hr => first | (go_simp; done) | (go_simp; rfl)); intro gb294 hg w5 hbox hb; have n0_ := Aside0.mk (zam (by repeat (first | (with_reducible first | exact HB.out | apply zac | apply zaa | apply zaf) | exact HB.out)) hb); have n1_ := Aside0.mk (hbox); have n2_ := Aside0.mk ((by rw [hg]; exact (zao (by repeat (first | (with_reducible first | exact HB.out | apply zac | apply zaa | apply zaf) | exact HB.out))) : w.heap.size ≤ gb294)); have n3_ := n2_; clear HB; have HB := n0_; have BK294 := n1_; have GW294 := n2_; have GE294 := n3_; clear n0_ n1_ n2_ n3_; clear hb hbox hg) | ((with_reducible refine zaK (N := 4) rfl ?_); (try (refine zbn (by rfl) ?_; dsimp only)); refine zaI ?hg (N := 4) ?hd (cs := #[.int .i64 0, .int .i64 0]) (t := 24) ?hr ?_; (case hd => rfl); (case hg => rfl); (case hr => first | (go_simp; done) | (go_simp; rfl)); intro gb295 hg w6 hbox hb; have n0_ := Aside0.mk (zaj (g := gb294) (o := .cells #[.slice A0_0 l0_0.length c0_0, .int .i64 a0_1, .int .i64 a0_2] 26 (0, 0)) (by (with_reducible repeat (first | apply zae | apply zai | apply zad)); exact BK294.out) hb); have n1_ := Aside0.mk (zam (by repeat (first | (with_reducible first | exact HB.out | apply zac | apply zaa | apply zaf | refine zab ?_ GE294.out) | exact HB.out)) hb); have n2_ := Aside0.mk (hbox); have n3_ := Aside0.mk ((by rw [hg]; exact (zao (by repeat (first | (with_reducible first | exact HB.out | apply zac | apply zaa | apply zaf | refine zab ?_ GE294.out) | exact HB.out))) : w.heap.size ≤ gb295)); have n4_ := n3_; have n5_ := Aside0.mk ((by rw [hg]; exact Nat.ne_of_lt (za3 (g := gb294) (o := .cells #[.slice A0_0 l0_0.length c0_0, .int .i64 a0_1, .int .i64 a0_2] 26 (0, 0)) (by (with_reducible repeat (first | apply zae | apply zai | apply zad)); exact BK294.out)) : gb294 ≠ gb295)); have n6_ := Aside0.mk n5_.out.symm; clear BK294; clear HB; have BK294 := n0_; have HB := n1_; have BK295 := n2_; have GW295 := n3_; have GE295 := n4_; have NB294_295 := n5_; have NB295_294 := n6_; clear n0_ n1_ n2_ n3_ n4_ n5_ n6_; clear hb hbox hg; have hnb7 := NB294_295.out; have hnc7 := NB295_294.out; have hcz8_0 : w6.cell? ⟨gb294, 0, none⟩ = some (.slice A0_0 l0_0.length c0_0) := (zak BK294.out 0).trans rfl; have hcz8_1 : w6.cell? ⟨gb294, 1, none⟩ = some (.int .i64 a0_1) := (zak BK294.out 1).trans rfl; have hcz8_2 : w6.cell? ⟨gb294, 2, none⟩ = some (.int .i64 a0_2) := (zak BK294.out 2).trans rfl; have hfz8_0 := zah BK294.out 0; have hfz8_1 := zah BK294.out 1; have hfz8_2 := zah BK294.out 2) | ((with_reducible refine zat (f := 11) rfl ?_); refine za9 (some 12) rfl rfl Tryd.func11 (by kernel_rfl) rfl #[.agg #[.slice A0_0 l0_0.length c0_0, .int .i64 a0_1, .int .i64 a0_2]] rfl (by (try simp only [List.map_toArray, List.map_cons, List.map_nil]); first | done | rfl | (simp only [List.length_drop, List.length_take]; rfl)) ?_; (with_reducible refine (zaX.calls k _ _ l0_0 a0_1 a0_2 true _ ?side1 ?side2 A3.out).mono ?_); (case side1 => repeat (first | exact (Kd.zbd HR0_0.out HB.out) | (with_reducible refine Kd.zbe ?_ _) | (with_reducible refine Kd.zbc ?_ _) | (with_reducible refine Kd.zbt ?_))); (case side2 => exact HC0_0.out); rintro e w9 ⟨rfl, hb⟩; refine ⟨_, rfl, ?_⟩; have n0_ := Aside0.mk (zaj (g := gb294) (o := .cells #[.slice A0_0 l0_0.length c0_0, .int .i64 a0_1, .int .i64 a0_2] 26 (0, 0)) (by (with_reducible repeat (first | apply zae | apply zai | apply zad)); exact BK294.out) hb); have n1_ := Aside0.mk (zaj (g := gb295) (o := .cells #[.int .i64 0, .int .i64 0] 24 (0, 0)) (by (with_reducible repeat (first | apply zae | apply zai | apply zad)); exact BK295.out) hb); have n2_ := Aside0.mk (zam (by repeat (first | (with_reducible first | exact HB.out | apply zac | apply zaa | apply zaf | refine zab ?_ GE294.out | refine zab ?_ GE295.out) | exact HB.out)) hb); clear BK294; clear BK295; clear HB; have BK294 := n0_; have BK295 := n1_; have HB := n2_; clear n0_ n1_ n2_; (try clear hb); (try clear hb2); (try clear hk); (try clear hi)))
  go_loopg [6] k (fun kq v6 w' => ∃ (x6_1 : Int) (x296000_1 : Int) (x296001_1 : Int), v6 = .int .i64 x6_1 ∧ Aside0 (zan.l0 kq l1 x6_1 l0_0 a0_1 a0_2 = some (r1, r2, r3)) ∧ Aside0 (kq ≤ k) ∧ Aside0 (w'.heap[gb294]? = some (.cells #[(.slice A0_0 l0_0.length c0_0), .int .i64 a0_1, .int .i64 a0_2] 26 (0, 0))) ∧ Aside0 (w'.heap[gb295]? = some (.cells #[.int .i64 x296000_1, .int .i64 x296001_1] 24 (0, 0))) ∧ Aside0 (Below w.heap.size w w'))
  case atStart => exact ⟨(0), (0), (0), (by first | rfl | (simp; done) | (simp [*]; done)), H', ⟨Nat.le_refl _⟩, ⟨by (with_reducible repeat (first | apply zae | apply zai | apply zad)); exact BK294.out⟩, ⟨by (with_reducible repeat (first | apply zae | apply zai | apply zad)); exact BK295.out⟩, ⟨by repeat (first | (with_reducible first | exact HB.out | apply zac | apply zaa | apply zaf | refine zab ?_ GE294.out | refine zab ?_ GE295.out) | exact HB.out)⟩⟩
  case round =>
   clear H'
   (try clear c1); (try clear c2); (try clear p2); (try clear c4); (try clear c7); (try clear hcz8_0); (try clear hcz8_1); (try clear hcz8_2); (try clear hfz8_0); (try clear hfz8_1); (try clear hfz8_2)
   obtain ⟨x6_1, x296000_1, x296001_1, rfl, HA, HK1, BK294, BK295, HB⟩ := hrel
   cases gk with
   | zero => exact absurd HA.out (by simp [zan.l0])
   | succ k1 =>
    have H := HA.out
    clear HA
    simp only [zan.l0] at H
    have HC10 := Aside0.mk H
    clear H
    go_upto_region 4 with (fail)
    go_cut [22] (fun v22 wc => ∃ (kq : Nat) (x22_9 : Bool), v22 = .bool x22_9 ∧ Aside0 (zan.j1 kq l1 x6_1 x22_9 l0_0 a0_1 a0_2 = some (r1, r2, r3)) ∧ Aside0 (kq ≤ k1) ∧ Aside0 (wc.heap[gb294]? = some (.cells #[(.slice A0_0 l0_0.length c0_0), .int .i64 a0_1, .int .i64 a0_2] 26 (0, 0))) ∧ Aside0 (wc.heap[gb295]? = some (.cells #[.int .i64 x296000_1, .int .i64 x296001_1] 24 (0, 0))) ∧ Aside0 (Below w.heap.size w wc))
    case first =>
     have H := HC10.out
     clear HC10
     by_cases c11 : x6_1 < (l1.length : Int)
     ·rw [if_pos c11] at H
      have c11b0 : decide (x6_1 < (l1.length : Int)) = true := decide_eq_true c11
      clear c11
      (first | rw [c11b0] | (simp only [zaL, zaN]; rw [c11b0]) | skip)
      have H' := Aside0.mk H
      clear H
      go_wp2
      go_meet
      case rel => exact ⟨_, (decide (x6_1 < 8)), (by first | rfl | (simp; done) | (simp [*]; done)), H', ⟨by have := HK1.out; first | omega | exact Nat.le_refl _⟩, ⟨by (with_reducible repeat (first | apply zae | apply zai | apply zad)); exact BK294.out⟩, ⟨by (with_reducible repeat (first | apply zae | apply zai | apply zad)); exact BK295.out⟩, ⟨by repeat (first | (with_reducible first | exact HB.out | apply zac | apply zaa | apply zaf | refine zab ?_ GE294.out | refine zab ?_ GE295.out) | exact HB.out)⟩⟩
     ·rw [if_neg c11] at H
      have c11b0 : decide (x6_1 < (l1.length : Int)) = false := decide_eq_false c11
      clear c11
      (first | rw [c11b0] | (simp only [zaL, zaN]; rw [c11b0]) | skip)
      have H' := Aside0.mk H
      clear H
      go_wp2
      go_meet
      case rel => exact ⟨_, (false), (by first | rfl | (simp; done) | (simp [*]; done)), H', ⟨by have := HK1.out; first | omega | exact Nat.le_refl _⟩, ⟨by (with_reducible repeat (first | apply zae | apply zai | apply zad)); exact BK294.out⟩, ⟨by (with_reducible repeat (first | apply zae | apply zai | apply zad)); exact BK295.out⟩, ⟨by repeat (first | (with_reducible first | exact HB.out | apply zac | apply zaa | apply zaf | refine zab ?_ GE294.out | refine zab ?_ GE295.out) | exact HB.out)⟩⟩
    case rest =>
     clear HC10
     (try clear c1); (try clear c2); (try clear p2); (try clear c4); (try clear c7); (try clear c11); (try clear c11b0); (try clear hcz8_0); (try clear hcz8_1); (try clear hcz8_2); (try clear hfz8_0); (try clear hfz8_1); (try clear hfz8_2); (try clear p2)
     obtain ⟨kq, x22_9, rfl, HA, HJ9, BK294, BK295, HB⟩ := hcut
     cases kq with
     | zero => exact absurd HA.out (by simp [zan.j1])
     | succ kj9 =>
      have H := HA.out
      clear HA
      simp only [zan.j1] at H
      by_cases c12 : x22_9 = true
      ·subst c12
       have H1 : (if 0 ≤ x6_1 then (if x6_1 < (l1.length : Int) then ((zaz.f ((zaC l1 x6_1).f0) ((zaC l1 x6_1).f1)).bind fun t298 => (if t298 = true then (zan.l0 kj9 l1 (wrap64 (x6_1 + 1)) l0_0 a0_1 a0_2) else (some (0, 0, 2)))) else (none)) else (none)) = some (r1, r2, r3) := by rw [if_pos rfl] at H; exact H
       clear H
       have H := H1
       clear H1
       by_cases c13 : 0 ≤ x6_1
       ·rw [if_pos c13] at H
        have c13b0 : decide (0 ≤ x6_1) = true := decide_eq_true c13
        clear c13
        by_cases c14 : x6_1 < (l1.length : Int)
        ·rw [if_pos c14] at H
         have c14b0 : decide (x6_1 < (l1.length : Int)) = true := decide_eq_true c14
         clear c14
         replace H := Option.bind_eq_some_iff.mp H
         obtain ⟨t298, A150, H⟩ := H
         replace H : (if t298 = true then (zan.l0 kj9 l1 (wrap64 (x6_1 + 1)) l0_0 a0_1 a0_2) else (some (0, 0, 2))) = some (r1, r2, r3) := H
         have A15 := Aside0.mk A150
         clear A150
         have HX := Aside0.mk H
         clear H
         have p297 : 0 ≤ (x6_1 : Int) := of_decide_eq_true (by first | (with_reducible assumption) | assumption)
         have q297 : x6_1 < (l1.length : Int) := of_decide_eq_true (by first | (with_reducible assumption) | assumption)
         obtain ⟨ad297, e297, hx297_0, hx297_1⟩ := zcw HR1.out x6_1 p297 q297
         cases e297
         replace hx297_0 := (HB.out.cell (World.block_lt_of_cell? w _ hx297_0)).trans hx297_0
         replace hx297_1 := (HB.out.cell (World.block_lt_of_cell? w _ hx297_1)).trans hx297_1
         replace p297 := eq_true p297
         replace q297 := eq_true q297
         have H := HX.out
         clear HX
         by_cases c16 : t298 = true
         ·subst c16
          have H1 : (zan.l0 kj9 l1 (wrap64 (x6_1 + 1)) l0_0 a0_1 a0_2) = some (r1, r2, r3) := by rw [if_pos rfl] at H; exact H
          clear H
          have H := H1
          clear H1
          have H' := Aside0.mk H
          clear H
          go_wp2_with (first | ((with_reducible refine zat (f := 27) rfl ?_); refine za9 (some 29) rfl rfl Tryd.func27 (by kernel_rfl) rfl #[.agg #[.int .i64 ((zaC l1 x6_1).f0), .int .i64 ((zaC l1 x6_1).f1)]] rfl (by (try simp only [List.map_toArray, List.map_cons, List.map_nil]); first | done | rfl | (simp only [List.length_drop, List.length_take]; rfl)) ?_; (with_reducible refine (zaz.calls ((zaC l1 x6_1).f0) ((zaC l1 x6_1).f1) true _ A15.out).mono ?_); rintro e w17 ⟨rfl, hb⟩; refine ⟨_, rfl, ?_⟩; have n0_ := Aside0.mk (zaj (g := gb294) (o := .cells #[.slice A0_0 l0_0.length c0_0, .int .i64 a0_1, .int .i64 a0_2] 26 (0, 0)) (by (with_reducible repeat (first | apply zae | apply zai | apply zad)); exact BK294.out) hb); have n1_ := Aside0.mk (zaj (g := gb295) (o := .cells #[.int .i64 x296000_1, .int .i64 x296001_1] 24 (0, 0)) (by (with_reducible repeat (first | apply zae | apply zai | apply zad)); exact BK295.out) hb); have n2_ := Aside0.mk (zam (by repeat (first | (with_reducible first | exact HB.out | apply zac | apply zaa | apply zaf | refine zab ?_ GE294.out | refine zab ?_ GE295.out) | exact HB.out)) hb); clear BK294; clear BK295; clear HB; have BK294 := n0_; have BK295 := n1_; have HB := n2_; clear n0_ n1_ n2_; (try clear hb); (try clear hb2); (try clear hk); (try clear hi)))
          go_roundg kj9
          case measure => have := HK1.out; have := HJ9.out; omega
          case rel => exact ⟨(wrap64 (x6_1 + 1)), (x296000_1), (x296001_1), (by first | rfl | (simp; done) | (simp [*]; done)), H', ⟨by have := HK1.out; have := HJ9.out; omega⟩, ⟨by (with_reducible repeat (first | apply zae | apply zai | apply zad)); exact BK294.out⟩, ⟨by (with_reducible repeat (first | apply zae | apply zai | apply zad)); exact BK295.out⟩, ⟨by repeat (first | (with_reducible first | exact HB.out | apply zac | apply zaa | apply zaf | refine zab ?_ GE294.out | refine zab ?_ GE295.out) | exact HB.out)⟩⟩
         ·replace c16 := Bool.eq_false_iff.mpr c16
          subst c16
          have H1 : (some (0, 0, 2)) = some (r1, r2, r3) := by rw [if_neg (show ¬ (false = true) by decide)] at H; exact H
          clear H
          have H := H1
          clear H1
          simp only [Option.some.injEq, Prod.mk.injEq] at H
          obtain ⟨rfl, rfl, rfl⟩ := H
          go_wp2_with (first | ((with_reducible refine zat (f := 27) rfl ?_); refine za9 (some 29) rfl rfl Tryd.func27 (by kernel_rfl) rfl #[.agg #[.int .i64 ((zaC l1 x6_1).f0), .int .i64 ((zaC l1 x6_1).f1)]] rfl (by (try simp only [List.map_toArray, List.map_cons, List.map_nil]); first | done | rfl | (simp only [List.length_drop, List.length_take]; rfl)) ?_; (with_reducible refine (zaz.calls ((zaC l1 x6_1).f0) ((zaC l1 x6_1).f1) false _ A15.out).mono ?_); rintro e w18 ⟨rfl, hb⟩; refine ⟨_, rfl, ?_⟩; have n0_ := Aside0.mk (zaj (g := gb294) (o := .cells #[.slice A0_0 l0_0.length c0_0, .int .i64 a0_1, .int .i64 a0_2] 26 (0, 0)) (by (with_reducible repeat (first | apply zae | apply zai | apply zad)); exact BK294.out) hb); have n1_ := Aside0.mk (zaj (g := gb295) (o := .cells #[.int .i64 x296000_1, .int .i64 x296001_1] 24 (0, 0)) (by (with_reducible repeat (first | apply zae | apply zai | apply zad)); exact BK295.out) hb); have n2_ := Aside0.mk (zam (by repeat (first | (with_reducible first | exact HB.out | apply zac | apply zaa | apply zaf | refine zab ?_ GE294.out | refine zab ?_ GE295.out) | exact HB.out)) hb); clear BK294; clear BK295; clear HB; have BK294 := n0_; have BK295 := n1_; have HB := n2_; clear n0_ n1_ n2_; (try clear hb); (try clear hb2); (try clear hk); (try clear hi); have hnb19 := NB295_294.out; have hnc19 := NB294_295.out; have hcz20_0 : w18.cell? ⟨gb295, 0, none⟩ = some (.int .i64 x296000_1) := (zak BK295.out 0).trans rfl; have hcz20_1 : w18.cell? ⟨gb295, 1, none⟩ = some (.int .i64 x296001_1) := (zak BK295.out 1).trans rfl; have hfz20_0 := zah BK295.out 0; have hfz20_1 := zah BK295.out 1))
          refine bodyPost_ret (za7 rfl _ _ gb295 24 #[.int .i64 0, .int .i64 0] (0, 0) _ rfl (by (with_reducible repeat (first | apply zae | apply zai | apply zad)); refine zay (cs := #[.int .i64 0, .int .i64 x296001_1]) ?_ 1 _ rfl; (with_reducible repeat (first | apply zae | apply zai | apply zad)); refine zay (cs := #[.int .i64 x296000_1, .int .i64 x296001_1]) ?_ 0 _ rfl; (with_reducible repeat (first | apply zae | apply zai | apply zad)); exact BK295.out) Tryd.underlying24 rfl (by kernel_rfl)) rfl ?_
          exact ⟨by first | rfl | (simp [zas, zar] <;> rfl) | (simp [*, zas, zar] <;> rfl), by repeat (first | (with_reducible first | exact HB.out | apply zac | apply zaa | apply zaf | refine zab ?_ GE294.out | refine zab ?_ GE295.out) | exact HB.out)⟩
        ·rw [if_neg c14] at H
         exact absurd H (by simp)
       ·rw [if_neg c13] at H
        exact absurd H (by simp)
      ·replace c12 := Bool.eq_false_iff.mpr c12
       subst c12
       have H1 : (zan.l1 kj9 l1 0 l0_0 a0_1 a0_2 a0_1 a0_2) = some (r1, r2, r3) := by rw [if_neg (show ¬ (false = true) by decide)] at H; exact H
       clear H
       have H := H1
       clear H1
       have H' := Aside0.mk H
       clear H
       have hnb21 := NB294_295.out
       have hnc21 := NB295_294.out
       have hcz22_0 : wc.cell? ⟨gb294, 0, none⟩ = some (.slice A0_0 l0_0.length c0_0) := (zak BK294.out 0).trans rfl
       have hcz22_1 : wc.cell? ⟨gb294, 1, none⟩ = some (.int .i64 a0_1) := (zak BK294.out 1).trans rfl
       have hcz22_2 : wc.cell? ⟨gb294, 2, none⟩ = some (.int .i64 a0_2) := (zak BK294.out 2).trans rfl
       have hfz22_0 := zah BK294.out 0
       have hfz22_1 := zah BK294.out 1
       have hfz22_2 := zah BK294.out 2
       go_wp2_with (first | ((with_reducible refine zaK (N := 7) rfl ?_); (try (refine zbn (by rfl) ?_; dsimp only)); refine zaI ?hg (N := 7) ?hd (cs := #[.int .i64 0, .int .i64 0]) (t := 24) ?hr ?_; (case hd => rfl); (case hg => rfl); (case hr => first | (go_simp; done) | (go_simp; rfl)); intro gb299 hg w23 hbox hb; have n0_ := Aside0.mk (zaj (g := gb294) (o := .cells #[.slice A0_0 l0_0.length c0_0, .int .i64 a0_1, .int .i64 a0_2] 26 (0, 0)) (by (with_reducible repeat (first | apply zae | apply zai | apply zad)); exact BK294.out) hb); have n1_ := Aside0.mk (zaj (g := gb295) (o := .cells #[.int .i64 x296000_1, .int .i64 x296001_1] 24 (0, 0)) (by (with_reducible repeat (first | apply zae | apply zai | apply zad)); exact BK295.out) hb); have n2_ := Aside0.mk (zam (by repeat (first | (with_reducible first | exact HB.out | apply zac | apply zaa | apply zaf | refine zab ?_ GE294.out | refine zab ?_ GE295.out) | exact HB.out)) hb); have n3_ := Aside0.mk (hbox); have n4_ := Aside0.mk ((by rw [hg]; exact (zao (by repeat (first | (with_reducible first | exact HB.out | apply zac | apply zaa | apply zaf | refine zab ?_ GE294.out | refine zab ?_ GE295.out) | exact HB.out))) : w.heap.size ≤ gb299)); have n5_ := n4_; have n6_ := Aside0.mk ((by rw [hg]; exact Nat.ne_of_lt (za3 (g := gb294) (o := .cells #[.slice A0_0 l0_0.length c0_0, .int .i64 a0_1, .int .i64 a0_2] 26 (0, 0)) (by (with_reducible repeat (first | apply zae | apply zai | apply zad)); exact BK294.out)) : gb294 ≠ gb299)); have n7_ := Aside0.mk n6_.out.symm; have n8_ := Aside0.mk ((by rw [hg]; exact Nat.ne_of_lt (za3 (g := gb295) (o := .cells #[.int .i64 x296000_1, .int .i64 x296001_1] 24 (0, 0)) (by (with_reducible repeat (first | apply zae | apply zai | apply zad)); exact BK295.out)) : gb295 ≠ gb299)); have n9_ := Aside0.mk n8_.out.symm; clear BK294; clear BK295; clear HB; have BK294 := n0_; have BK295 := n1_; have HB := n2_; have BK299 := n3_; have GW299 := n4_; have GE299 := n5_; have NB294_299 := n6_; have NB299_294 := n7_; have NB295_299 := n8_; have NB299_295 := n9_; clear n0_ n1_ n2_ n3_ n4_ n5_ n6_ n7_ n8_ n9_; clear hb hbox hg; have hnb24 := NB299_294.out; have hnc24 := NB294_299.out; have hnb25 := NB299_295.out; have hnc25 := NB295_299.out; have hcz26_0 : w23.cell? ⟨gb299, 0, none⟩ = some (.int .i64 0) := (zak BK299.out 0).trans rfl; have hcz26_1 : w23.cell? ⟨gb299, 1, none⟩ = some (.int .i64 0) := (zak BK299.out 1).trans rfl; have hfz26_0 := zah BK299.out 0; have hfz26_1 := zah BK299.out 1))
       go_loopg [8] kj9 (fun kq v8 w' => ∃ (x8_3 : Int) (x296000_3 : Int) (x296001_3 : Int) (x300000_3 : Int) (x300001_3 : Int), v8 = .int .i64 x8_3 ∧ Aside0 (zan.l1 kq l1 x8_3 l0_0 a0_1 a0_2 x300000_3 x300001_3 = some (r1, r2, r3)) ∧ Aside0 (kq ≤ kj9) ∧ Aside0 (w'.heap[gb294]? = some (.cells #[(.slice A0_0 l0_0.length c0_0), .int .i64 a0_1, .int .i64 a0_2] 26 (0, 0))) ∧ Aside0 (w'.heap[gb295]? = some (.cells #[.int .i64 x296000_3, .int .i64 x296001_3] 24 (0, 0))) ∧ Aside0 (w'.heap[gb299]? = some (.cells #[.int .i64 x300000_3, .int .i64 x300001_3] 24 (0, 0))) ∧ Aside0 (Below w.heap.size w w'))
       case atStart => exact ⟨(0), (x296000_1), (x296001_1), (a0_1), (a0_2), (by first | rfl | (simp; done) | (simp [*]; done)), H', ⟨Nat.le_refl _⟩, ⟨by (repeat (first | (with_reducible first | apply zae | apply zai | apply zad) | refine zaA ?_ NB294_299.out _)); exact BK294.out⟩, ⟨by (repeat (first | (with_reducible first | apply zae | apply zai | apply zad) | refine zaA ?_ NB295_299.out _)); exact BK295.out⟩, ⟨by (with_reducible repeat (first | apply zae | apply zai | apply zad)); refine zay (cs := #[.int .i64 a0_1, .int .i64 0]) ?_ 1 _ rfl; (with_reducible repeat (first | apply zae | apply zai | apply zad)); refine zay (cs := #[.int .i64 0, .int .i64 0]) ?_ 0 _ rfl; (with_reducible repeat (first | apply zae | apply zai | apply zad)); exact BK299.out⟩, ⟨by repeat (first | (with_reducible first | exact HB.out | apply zac | apply zaa | apply zaf | refine zab ?_ GE294.out | refine zab ?_ GE295.out | refine zab ?_ GE299.out) | exact HB.out)⟩⟩
       case round =>
        clear H'
        (try clear c1); (try clear c2); (try clear p2); (try clear q2); (try clear hx2); (try clear c4); (try clear p6); (try clear c7); (try clear c11); (try clear c11b0); (try clear c12); (try clear c13); (try clear c13b0); (try clear c14); (try clear c14b0); (try clear c16); (try clear c19); (try clear c21); (try clear c24); (try clear c25); (try clear hcz20_0); (try clear hcz20_1); (try clear hcz22_0); (try clear hcz22_1); (try clear hcz22_2); (try clear hcz26_0); (try clear hcz26_1); (try clear hcz8_0); (try clear hcz8_1); (try clear hcz8_2); (try clear hfz20_0); (try clear hfz20_1); (try clear hfz22_0); (try clear hfz22_1); (try clear hfz22_2); (try clear hfz26_0); (try clear hfz26_1); (try clear hfz8_0); (try clear hfz8_1); (try clear hfz8_2); (try clear hx297_0); (try clear hx297_1); (try clear p2); (try clear p297); (try clear q297)
        obtain ⟨x8_3, x296000_3, x296001_3, x300000_3, x300001_3, rfl, HA, HK3, BK294, BK295, BK299, HB⟩ := hrel
        cases gk with
        | zero => exact absurd HA.out (by simp [zan.l1])
        | succ k3 =>
         have H := HA.out
         clear HA
         simp only [zan.l1] at H
         have HC27 := Aside0.mk H
         clear H
         go_upto_region 10 with (fail)
         go_cut [44] (fun v44 wc => ∃ (kq : Nat) (x44_26 : Bool), v44 = .bool x44_26 ∧ Aside0 (zan.j3 kq l1 x8_3 x44_26 l0_0 a0_1 a0_2 x300000_3 x300001_3 = some (r1, r2, r3)) ∧ Aside0 (kq ≤ k3) ∧ Aside0 (wc.heap[gb294]? = some (.cells #[(.slice A0_0 l0_0.length c0_0), .int .i64 a0_1, .int .i64 a0_2] 26 (0, 0))) ∧ Aside0 (wc.heap[gb295]? = some (.cells #[.int .i64 x296000_3, .int .i64 x296001_3] 24 (0, 0))) ∧ Aside0 (wc.heap[gb299]? = some (.cells #[.int .i64 x300000_3, .int .i64 x300001_3] 24 (0, 0))) ∧ Aside0 (Below w.heap.size w wc))
         case first =>
          have H := HC27.out
          clear HC27
          by_cases c28 : x8_3 < (l0_0.length : Int)
          ·rw [if_pos c28] at H
           have c28b0 : decide (x8_3 < (l0_0.length : Int)) = true := decide_eq_true c28
           clear c28
           (first | rw [c28b0] | (simp only [zaL, zaN]; rw [c28b0]) | skip)
           have H' := Aside0.mk H
           clear H
           have hnb29 := NB294_295.out
           have hnc29 := NB295_294.out
           have hnb30 := NB294_299.out
           have hnc30 := NB299_294.out
           have hcz31_0 : wr.cell? ⟨gb294, 0, none⟩ = some (.slice A0_0 l0_0.length c0_0) := (zak BK294.out 0).trans rfl
           have hcz31_1 : wr.cell? ⟨gb294, 1, none⟩ = some (.int .i64 a0_1) := (zak BK294.out 1).trans rfl
           have hcz31_2 : wr.cell? ⟨gb294, 2, none⟩ = some (.int .i64 a0_2) := (zak BK294.out 2).trans rfl
           have hfz31_0 := zah BK294.out 0
           have hfz31_1 := zah BK294.out 1
           have hfz31_2 := zah BK294.out 2
           go_wp2
           go_meet
           case rel => exact ⟨_, (decide (x8_3 < (l1.length : Int))), (by first | rfl | (simp; done) | (simp [*]; done)), H', ⟨by have := HK1.out; have := HJ9.out; have := HK3.out; first | omega | exact Nat.le_refl _⟩, ⟨by (with_reducible repeat (first | apply zae | apply zai | apply zad)); exact BK294.out⟩, ⟨by (with_reducible repeat (first | apply zae | apply zai | apply zad)); exact BK295.out⟩, ⟨by (with_reducible repeat (first | apply zae | apply zai | apply zad)); exact BK299.out⟩, ⟨by repeat (first | (with_reducible first | exact HB.out | apply zac | apply zaa | apply zaf | refine zab ?_ GE294.out | refine zab ?_ GE295.out | refine zab ?_ GE299.out) | exact HB.out)⟩⟩
          ·rw [if_neg c28] at H
           have c28b0 : decide (x8_3 < (l0_0.length : Int)) = false := decide_eq_false c28
           clear c28
           (first | rw [c28b0] | (simp only [zaL, zaN]; rw [c28b0]) | skip)
           have H' := Aside0.mk H
           clear H
           have hnb32 := NB294_295.out
           have hnc32 := NB295_294.out
           have hnb33 := NB294_299.out
           have hnc33 := NB299_294.out
           have hcz34_0 : wr.cell? ⟨gb294, 0, none⟩ = some (.slice A0_0 l0_0.length c0_0) := (zak BK294.out 0).trans rfl
           have hcz34_1 : wr.cell? ⟨gb294, 1, none⟩ = some (.int .i64 a0_1) := (zak BK294.out 1).trans rfl
           have hcz34_2 : wr.cell? ⟨gb294, 2, none⟩ = some (.int .i64 a0_2) := (zak BK294.out 2).trans rfl
           have hfz34_0 := zah BK294.out 0
           have hfz34_1 := zah BK294.out 1
           have hfz34_2 := zah BK294.out 2
           go_wp2
           go_meet
           case rel => exact ⟨_, (false), (by first | rfl | (simp; done) | (simp [*]; done)), H', ⟨by have := HK1.out; have := HJ9.out; have := HK3.out; first | omega | exact Nat.le_refl _⟩, ⟨by (with_reducible repeat (first | apply zae | apply zai | apply zad)); exact BK294.out⟩, ⟨by (with_reducible repeat (first | apply zae | apply zai | apply zad)); exact BK295.out⟩, ⟨by (with_reducible repeat (first | apply zae | apply zai | apply zad)); exact BK299.out⟩, ⟨by repeat (first | (with_reducible first | exact HB.out | apply zac | apply zaa | apply zaf | refine zab ?_ GE294.out | refine zab ?_ GE295.out | refine zab ?_ GE299.out) | exact HB.out)⟩⟩
         case rest =>
          clear HC27
          (try clear c1); (try clear c2); (try clear p2); (try clear q2); (try clear hx2); (try clear c3); (try clear c4); (try clear p6); (try clear c7); (try clear c11); (try clear c11b0); (try clear c12); (try clear c13); (try clear c13b0); (try clear c14); (try clear c14b0); (try clear c16); (try clear c19); (try clear c21); (try clear c24); (try clear c25); (try clear c27); (try clear c28); (try clear c28b0); (try clear c29); (try clear p29); (try clear q29); (try clear hx29); (try clear c30); (try clear c32); (try clear c33); (try clear hcz20_0); (try clear hcz20_1); (try clear hcz22_0); (try clear hcz22_1); (try clear hcz22_2); (try clear hcz26_0); (try clear hcz26_1); (try clear hcz31_0); (try clear hcz31_1); (try clear hcz31_2); (try clear hcz34_0); (try clear hcz34_1); (try clear hcz34_2); (try clear hcz8_0); (try clear hcz8_1); (try clear hcz8_2); (try clear hfz20_0); (try clear hfz20_1); (try clear hfz22_0); (try clear hfz22_1); (try clear hfz22_2); (try clear hfz26_0); (try clear hfz26_1); (try clear hfz31_0); (try clear hfz31_1); (try clear hfz31_2); (try clear hfz34_0); (try clear hfz34_1); (try clear hfz34_2); (try clear hfz8_0); (try clear hfz8_1); (try clear hfz8_2); (try clear hx297_0); (try clear hx297_1); (try clear p2); (try clear p297); (try clear p6); (try clear q2); (try clear q297)
          obtain ⟨kq, x44_26, rfl, HA, HJ26, BK294, BK295, BK299, HB⟩ := hcut
          cases kq with
          | zero => exact absurd HA.out (by simp [zan.j3])
          | succ kj26 =>
           have H := HA.out
           clear HA
           simp only [zan.j3] at H
           by_cases c35 : x44_26 = true
           ·subst c35
            have H1 : (if 0 ≤ x8_3 then (if x8_3 < (l0_0.length : Int) then (if x8_3 < (l1.length : Int) then ((za2.f 2 ((zaC l0_0 x8_3).f0) ((zaC l0_0 x8_3).f1) ((zaC l1 x8_3).f0) ((zaC l1 x8_3).f1)).bind fun bt302 => (if bt302.2.2 = 0 then ((za2.f 0 x300000_3 x300001_3 bt302.1 bt302.2.1).bind fun bt306 => (if bt306.2.2 = 0 then (zan.l1 kj26 l1 (wrap64 (x8_3 + 1)) l0_0 a0_1 a0_2 bt306.1 bt306.2.1) else (some (0, 0, bt306.2.2)))) else (some (0, 0, bt302.2.2)))) else (none)) else (none)) else (none)) = some (r1, r2, r3) := by rw [if_pos rfl] at H; exact H
            clear H
            have H := H1
            clear H1
            by_cases c36 : 0 ≤ x8_3
            ·rw [if_pos c36] at H
             have c36b0 : decide (0 ≤ x8_3) = true := decide_eq_true c36
             clear c36
             by_cases c37 : x8_3 < (l0_0.length : Int)
             ·rw [if_pos c37] at H
              have c37b0 : decide (x8_3 < (l0_0.length : Int)) = true := decide_eq_true c37
              clear c37
              by_cases c38 : x8_3 < (l1.length : Int)
              ·rw [if_pos c38] at H
               have c38b0 : decide (x8_3 < (l1.length : Int)) = true := decide_eq_true c38
               clear c38
               replace H := Option.bind_eq_some_iff.mp H
               obtain ⟨⟨t302, t303, t304⟩, A390, H⟩ := H
               replace H : (if t304 = 0 then ((za2.f 0 x300000_3 x300001_3 t302 t303).bind fun bt306 => (if bt306.2.2 = 0 then (zan.l1 kj26 l1 (wrap64 (x8_3 + 1)) l0_0 a0_1 a0_2 bt306.1 bt306.2.1) else (some (0, 0, bt306.2.2)))) else (some (0, 0, t304))) = some (r1, r2, r3) := H
               have A39 := Aside0.mk A390
               clear A390
               have HX := Aside0.mk H
               clear H
               try go_wp2
               have n0_ := Aside0.mk (zai BK294.out)
               have n1_ := Aside0.mk (zai BK295.out)
               have n2_ := Aside0.mk (zai BK299.out)
               have n3_ := Aside0.mk (zaf HB.out)
               clear BK294 BK295 BK299 HB
               have BK294 := n0_
               have BK295 := n1_
               have BK299 := n2_
               have HB := n3_
               clear n0_ n1_ n2_ n3_
               have p300 : 0 ≤ (x8_3 : Int) := of_decide_eq_true (by first | (with_reducible assumption) | assumption)
               have q300 : x8_3 < (l0_0.length : Int) := of_decide_eq_true (by first | (with_reducible assumption) | assumption)
               obtain ⟨ad300, e300, hx300_0, hx300_1⟩ := zcw HR0_0.out x8_3 p300 q300
               have hw300_1 := hx300_1
               have hw300_0 := hx300_0
               cases e300
               replace hx300_0 := (HB.out.cell (World.block_lt_of_cell? w _ hx300_0)).trans hx300_0
               replace hx300_1 := (HB.out.cell (World.block_lt_of_cell? w _ hx300_1)).trans hx300_1
               replace p300 := eq_true p300
               replace q300 := eq_true q300
               have p301 : 0 ≤ (x8_3 : Int) := of_decide_eq_true (by first | (with_reducible assumption) | assumption)
               have q301 : x8_3 < (l1.length : Int) := of_decide_eq_true (by first | (with_reducible assumption) | assumption)
               obtain ⟨ad301, e301, hx301_0, hx301_1⟩ := zcw HR1.out x8_3 p301 q301
               have hw301_1 := hx301_1
               have hw301_0 := hx301_0
               cases e301
               replace hx301_0 := (HB.out.cell (World.block_lt_of_cell? w _ hx301_0)).trans hx301_0
               replace hx301_1 := (HB.out.cell (World.block_lt_of_cell? w _ hx301_1)).trans hx301_1
               replace p301 := eq_true p301
               replace q301 := eq_true q301
               refine zcP (n := 16) (S := fun w' => w'.cell? ⟨gb294, 0, none⟩ = some (.slice (some ad300) l0_0.length c0_0) ∧ w'.cell? ⟨gb294, 1, none⟩ = some (.int .i64 a0_1) ∧ w'.cell? ⟨gb294, 2, none⟩ = some (.int .i64 a0_2) ∧ w'.cell? (ad300.add ((x8_3).toNat * 2)) = some (.int .i64 ((zaC l0_0 x8_3).f0)) ∧ w'.cell? ⟨(ad300.add ((x8_3).toNat * 2)).block, (ad300.add ((x8_3).toNat * 2)).off + 1, none⟩ = some (.int .i64 ((zaC l0_0 x8_3).f1)) ∧ w'.cell? (ad301.add ((x8_3).toNat * 2)) = some (.int .i64 ((zaC l1 x8_3).f0)) ∧ w'.cell? ⟨(ad301.add ((x8_3).toNat * 2)).block, (ad301.add ((x8_3).toNat * 2)).off + 1, none⟩ = some (.int .i64 ((zaC l1 x8_3).f1))) (ds := []) #[false, false, false, false, false, false, false, false, false, false, false, false, false, false, false, false] (by kernel_rfl) rfl rfl ⟨(zak BK294.out 0).trans rfl, (zak BK294.out 1).trans rfl, (zak BK294.out 2).trans rfl, ((HB.out.cell (World.block_lt_of_cell? w _ hw300_0)).trans hw300_0), ((HB.out.cell (World.block_lt_of_cell? w _ hw300_1)).trans hw300_1), ((HB.out.cell (World.block_lt_of_cell? w _ hw301_0)).trans hw301_0), ((HB.out.cell (World.block_lt_of_cell? w _ hw301_1)).trans hw301_1)⟩ (fun hHeld => ?_); refine zb8 zan.tab12 zan.bits12 (fun HT_ HW_ => ?_)
               generalize wc.drew = w43 at BK294 BK295 BK299 HB hx300_0 hx300_1 hx301_0 hx301_1 hHeld ⊢
               refine zbB (i := 0) (N := some 48) (v := ?_) (a' := ?_) #[true, false, false, false, false, false, false, false, false, false, false, false, false, false, false, false] rfl rfl (zbm HT_.out (by kernel_rfl)) (fun _ _ _ h => h) (Or.inl ⟨by rfl, ?_⟩) ?_ ?_
               rotate_left
               ·intro w'
                go_simp
                with_reducible rfl
               rotate_left
               ·simp only [Act.put, List.setIfInBounds_toArray, List.set_cons_zero, List.set_cons_succ, zaL, zaN]
                rfl
               refine zbB (i := 2) (N := some 50) (v := ?_) (a' := ?_) #[true, false, true, false, false, false, false, false, false, false, false, false, false, false, false, false] rfl rfl (zbm HT_.out (by kernel_rfl)) (fun _ _ _ h => h) (Or.inl ⟨by rfl, ?_⟩) ?_ ?_
               rotate_left
               ·intro w'
                go_simp
                with_reducible rfl
               rotate_left
               ·simp only [Act.put, List.setIfInBounds_toArray, List.set_cons_zero, List.set_cons_succ, zaL, zaN]
                rfl
               refine zbB (i := 5) (N := some 53) (v := ?_) (a' := ?_) #[true, false, true, false, false, true, false, false, false, false, false, false, false, false, false, false] rfl rfl (zbm HT_.out (by kernel_rfl)) (fun _ _ _ h => h) (Or.inl ⟨by rfl, ?_⟩) ?_ ?_
               rotate_left
               ·intro w'
                go_simp
                with_reducible rfl
               rotate_left
               ·simp only [Act.put, List.setIfInBounds_toArray, List.set_cons_zero, List.set_cons_succ, zaL, zaN]
                rfl
               refine zbB (i := 6) (N := some 54) (v := ?_) (a' := ?_) #[true, false, true, false, false, true, true, false, false, false, false, false, false, false, false, false] rfl rfl (zbm HT_.out (by kernel_rfl)) (fun _ _ _ h => h) (Or.inl ⟨by rfl, ?_⟩) ?_ ?_
               rotate_left
               ·intro w'
                go_simp
                with_reducible rfl
               rotate_left
               ·simp only [Act.put, List.setIfInBounds_toArray, List.set_cons_zero, List.set_cons_succ, zaL, zaN]
                rfl
               refine zbB (i := 7) (N := some 55) (v := ?_) (a' := ?_) #[true, false, true, false, false, true, true, true, false, false, false, false, false, false, false, false] rfl rfl (zbm HT_.out (by kernel_rfl)) (fun _ _ _ h => h) (Or.inl ⟨by rfl, ?_⟩) ?_ ?_
               rotate_left
               ·intro w'
                go_simp
                with_reducible rfl
               rotate_left
               ·simp only [Act.put, List.setIfInBounds_toArray, List.set_cons_zero, List.set_cons_succ, zaL, zaN]
                rfl
               refine zb4 (i := 1) (N := some 49) (v := ?_) (a' := ?_) #[true, true, true, false, false, true, true, true, false, false, false, false, false, false, false, false] rfl rfl (zbv HT_.out HW_.out (by kernel_rfl)) (fun _ _ _ h => h) (Or.inl ⟨by rfl, ?_⟩) hHeld ?_ ?_
               rotate_left
               ·rintro w' ⟨s0, s1, s2, s3, s4, s5, s6⟩
                go_simp
                with_reducible rfl
               rotate_left
               ·simp only [Act.put, List.setIfInBounds_toArray, List.set_cons_zero, List.set_cons_succ, zaL, zaN]
                rfl
               refine zbB (i := 3) (N := some 51) (v := ?_) (a' := ?_) #[true, true, true, true, false, true, true, true, false, false, false, false, false, false, false, false] rfl rfl (zbm HT_.out (by kernel_rfl)) (fun _ _ _ h => h) (Or.inl ⟨by rfl, ?_⟩) ?_ ?_
               rotate_left
               ·intro w'
                go_simp
                with_reducible rfl
               rotate_left
               ·simp only [Act.put, List.setIfInBounds_toArray, List.set_cons_zero, List.set_cons_succ, zaL, zaN]
                rfl
               refine zb4 (i := 4) (N := some 52) (v := ?_) (a' := ?_) #[true, true, true, true, true, true, true, true, false, false, false, false, false, false, false, false] rfl rfl (zbv HT_.out HW_.out (by kernel_rfl)) (fun _ _ _ h => h) (Or.inl ⟨by rfl, ?_⟩) hHeld ?_ ?_
               rotate_left
               ·rintro w' ⟨s0, s1, s2, s3, s4, s5, s6⟩
                go_simp
                with_reducible rfl
               rotate_left
               ·simp only [Act.put, List.setIfInBounds_toArray, List.set_cons_zero, List.set_cons_succ, zaL, zaN]
                rfl
               refine zb4 (i := 8) (N := some 56) (v := ?_) (a' := ?_) #[true, true, true, true, true, true, true, true, true, false, false, false, false, false, false, false] rfl rfl (zbv HT_.out HW_.out (by kernel_rfl)) (fun _ _ _ h => h) (Or.inl ⟨by rfl, ?_⟩) hHeld ?_ ?_
               rotate_left
               ·rintro w' ⟨s0, s1, s2, s3, s4, s5, s6⟩
                go_simp
                with_reducible rfl
               rotate_left
               ·simp only [Act.put, List.setIfInBounds_toArray, List.set_cons_zero, List.set_cons_succ, zaL, zaN]
                rfl
               refine zc0 (σ := Nat) 2 #[true, true, true, true, true, true, true, true, true, true, true, true, true, true, false, false] (fun s_ => [(57, .tuple #[.agg #[.int .i64 t302, .int .i64 t303], .int .i64 t304]), (9, .pointer (some ⟨s_, 0, none⟩)), (47, .tuple #[.agg #[.int .i64 t302, .int .i64 t303], .int .i64 t304]), (58, .agg #[.int .i64 t302, .int .i64 t303]), (59, .int .i64 t304)]) (fun s_ w' => (w'.cell? ⟨gb294, 0, none⟩ = some (.slice (some ad300) l0_0.length c0_0) ∧ w'.cell? ⟨gb294, 1, none⟩ = some (.int .i64 a0_1) ∧ w'.cell? ⟨gb294, 2, none⟩ = some (.int .i64 a0_2) ∧ w'.cell? (ad300.add ((x8_3).toNat * 2)) = some (.int .i64 ((zaC l0_0 x8_3).f0)) ∧ w'.cell? ⟨(ad300.add ((x8_3).toNat * 2)).block, (ad300.add ((x8_3).toNat * 2)).off + 1, none⟩ = some (.int .i64 ((zaC l0_0 x8_3).f1)) ∧ w'.cell? (ad301.add ((x8_3).toNat * 2)) = some (.int .i64 ((zaC l1 x8_3).f0)) ∧ w'.cell? ⟨(ad301.add ((x8_3).toNat * 2)).block, (ad301.add ((x8_3).toNat * 2)).off + 1, none⟩ = some (.int .i64 ((zaC l1 x8_3).f1))) ∧ (w'.heap[gb294]? = some (.cells #[.slice (some ad300) l0_0.length c0_0, .int .i64 a0_1, .int .i64 a0_2] 26 (0, 0))) ∧ (w'.heap[gb295]? = some (.cells #[.int .i64 x296000_3, .int .i64 x296001_3] 24 (0, 0))) ∧ (w'.heap[gb299]? = some (.cells #[.int .i64 x300000_3, .int .i64 x300001_3] 24 (0, 0))) ∧ (w'.heap[s_]? = some (.cells #[.int .i64 0, .int .i64 0] 24 (0, 0))) ∧ (w.heap.size ≤ s_) ∧ (w.heap.size ≤ s_) ∧ (gb294 ≠ s_) ∧ (s_ ≠ gb294) ∧ (gb295 ≠ s_) ∧ (s_ ≠ gb295) ∧ (gb299 ≠ s_) ∧ (s_ ≠ gb299) ∧ (Below w.heap.size w w')) ?_ ?_
               rotate_left
               ·intro hCont
                refine two_ (i := 9) (j := 13) (Ni := some 57) (Nj := some 9) #[true, true, true, true, true, true, true, true, true, true, false, false, false, false, false, false] #[true, true, true, true, true, true, true, true, true, false, false, false, false, true, false, false] rfl rfl rfl rfl (zdj HT_.out (by kernel_rfl)) (by decide) (by decide) (fun K hK => ?_) (fun K hK => ?_)
                ·skip
                 refine zce Tryd.func26 (by kernel_rfl) rfl #[.int .i64 2, .agg #[.int .i64 ((zaC l0_0 x8_3).f0), .int .i64 ((zaC l0_0 x8_3).f1)], .agg #[.int .i64 ((zaC l1 x8_3).f0), .int .i64 ((zaC l1 x8_3).f1)]] (by rfl) rfl rfl (by (try simp only [List.map_toArray, List.map_cons, List.map_nil]); first | done | rfl | (simp only [List.length_drop, List.length_take]; rfl)) ?_
                 with_reducible refine (za2.calls 2 ((zaC l0_0 x8_3).f0) ((zaC l0_0 x8_3).f1) ((zaC l1 x8_3).f0) ((zaC l1 x8_3).f1) t302 t303 t304 _ A39.out).mono ?_
                 rintro e w44 ⟨rfl, hb⟩
                 refine ⟨_, rfl, ?_⟩
                 have n0_ := Aside0.mk (zaj (g := gb294) (o := .cells #[.slice (some ad300) l0_0.length c0_0, .int .i64 a0_1, .int .i64 a0_2] 26 (0, 0)) (by (with_reducible repeat (first | apply zae | apply zai | apply zad)); exact BK294.out) hb)
                 have n1_ := Aside0.mk (zaj (g := gb295) (o := .cells #[.int .i64 x296000_3, .int .i64 x296001_3] 24 (0, 0)) (by (with_reducible repeat (first | apply zae | apply zai | apply zad)); exact BK295.out) hb)
                 have n2_ := Aside0.mk (zaj (g := gb299) (o := .cells #[.int .i64 x300000_3, .int .i64 x300001_3] 24 (0, 0)) (by (with_reducible repeat (first | apply zae | apply zai | apply zad)); exact BK299.out) hb)
                 have n3_ := Aside0.mk (zam (by repeat (first | (with_reducible first | exact HB.out | apply zac | apply zaa | apply zaf | refine zab ?_ GE294.out | refine zab ?_ GE295.out | refine zab ?_ GE299.out) | exact HB.out)) hb)
                 clear BK294 BK295 BK299 HB
                 have BK294 := n0_
                 have BK295 := n1_
                 have BK299 := n2_
                 have HB := n3_
                 clear n0_ n1_ n2_ n3_
                 (try clear hb)
                 (try clear hb2)
                 (try clear hk)
                 (try clear hi)
                 refine hK.out _ _ ⟨(zak BK294.out 0).trans rfl, (zak BK294.out 1).trans rfl, (zak BK294.out 2).trans rfl, ((HB.out.cell (World.block_lt_of_cell? w _ hw300_0)).trans hw300_0), ((HB.out.cell (World.block_lt_of_cell? w _ hw300_1)).trans hw300_1), ((HB.out.cell (World.block_lt_of_cell? w _ hw301_0)).trans hw301_0), ((HB.out.cell (World.block_lt_of_cell? w _ hw301_1)).trans hw301_1)⟩ (fun hHeld => ?_)
                 clear hK K
                 refine zbE (a' := ?_) ?_ ?_
                 rotate_left
                 ·show Act.put _ (some 57) _ = _
                  simp only [Act.put, List.setIfInBounds_toArray, List.set_cons_zero, List.set_cons_succ, zaL, zaN]
                  rfl
                 refine zbB (i := 10) (N := some 47) (v := ?_) (a' := ?_) #[true, true, true, true, true, true, true, true, true, true, true, false, false, false, false, false] rfl rfl (zbm HT_.out (by kernel_rfl)) (fun _ _ _ h => h) (Or.inl ⟨by rfl, ?_⟩) ?_ ?_
                 rotate_left
                 ·intro w'
                  go_simp
                  with_reducible rfl
                 rotate_left
                 ·simp only [Act.put, List.setIfInBounds_toArray, List.set_cons_zero, List.set_cons_succ, zaL, zaN]
                  rfl
                 refine zbB (i := 11) (N := some 58) (v := ?_) (a' := ?_) #[true, true, true, true, true, true, true, true, true, true, true, true, false, false, false, false] rfl rfl (zbm HT_.out (by kernel_rfl)) (fun _ _ _ h => h) (Or.inl ⟨by rfl, ?_⟩) ?_ ?_
                 rotate_left
                 ·intro w'
                  go_simp
                  with_reducible rfl
                 rotate_left
                 ·simp only [Act.put, List.setIfInBounds_toArray, List.set_cons_zero, List.set_cons_succ, zaL, zaN]
                  rfl
                 refine zbB (i := 12) (N := some 59) (v := ?_) (a' := ?_) #[true, true, true, true, true, true, true, true, true, true, true, true, true, false, false, false] rfl rfl (zbm HT_.out (by kernel_rfl)) (fun _ _ _ h => h) (Or.inl ⟨by rfl, ?_⟩) ?_ ?_
                 rotate_left
                 ·intro w'
                  go_simp
                  with_reducible rfl
                 rotate_left
                 ·simp only [Act.put, List.setIfInBounds_toArray, List.set_cons_zero, List.set_cons_succ, zaL, zaN]
                  rfl
                 refine one_ (i := 13) (N := some 9) #[true, true, true, true, true, true, true, true, true, true, true, true, true, true, false, false] rfl rfl (zbK HT_.out (by kernel_rfl)) (by decide) (fun K hK => ?_)
                 refine zdh ?hg (N := 9) ?hd (cs := #[.int .i64 0, .int .i64 0]) (t := 24) ?hr ?_; (case hd => rfl); (case hg => rfl); (case hr => first | (go_simp; done) | (go_simp; rfl))
                 intro gb305 hg w45 hbox hb
                 have n0_ := Aside0.mk (zaj (g := gb294) (o := .cells #[.slice (some ad300) l0_0.length c0_0, .int .i64 a0_1, .int .i64 a0_2] 26 (0, 0)) (by (with_reducible repeat (first | apply zae | apply zai | apply zad)); exact BK294.out) hb)
                 have n1_ := Aside0.mk (zaj (g := gb295) (o := .cells #[.int .i64 x296000_3, .int .i64 x296001_3] 24 (0, 0)) (by (with_reducible repeat (first | apply zae | apply zai | apply zad)); exact BK295.out) hb)
                 have n2_ := Aside0.mk (zaj (g := gb299) (o := .cells #[.int .i64 x300000_3, .int .i64 x300001_3] 24 (0, 0)) (by (with_reducible repeat (first | apply zae | apply zai | apply zad)); exact BK299.out) hb)
                 have n3_ := Aside0.mk (zam (by repeat (first | (with_reducible first | exact HB.out | apply zac | apply zaa | apply zaf | refine zab ?_ GE294.out | refine zab ?_ GE295.out | refine zab ?_ GE299.out) | exact HB.out)) hb)
                 have n4_ := Aside0.mk (hbox)
                 have n5_ := Aside0.mk ((by rw [hg]; exact (zao (by repeat (first | (with_reducible first | exact HB.out | apply zac | apply zaa | apply zaf | refine zab ?_ GE294.out | refine zab ?_ GE295.out | refine zab ?_ GE299.out) | exact HB.out))) : w.heap.size ≤ gb305))
                 have n6_ := n5_
                 have n7_ := Aside0.mk ((by rw [hg]; exact Nat.ne_of_lt (za3 (g := gb294) (o := .cells #[.slice (some ad300) l0_0.length c0_0, .int .i64 a0_1, .int .i64 a0_2] 26 (0, 0)) (by (with_reducible repeat (first | apply zae | apply zai | apply zad)); exact BK294.out)) : gb294 ≠ gb305))
                 have n8_ := Aside0.mk n7_.out.symm
                 have n9_ := Aside0.mk ((by rw [hg]; exact Nat.ne_of_lt (za3 (g := gb295) (o := .cells #[.int .i64 x296000_3, .int .i64 x296001_3] 24 (0, 0)) (by (with_reducible repeat (first | apply zae | apply zai | apply zad)); exact BK295.out)) : gb295 ≠ gb305))
                 have n10_ := Aside0.mk n9_.out.symm
                 have n11_ := Aside0.mk ((by rw [hg]; exact Nat.ne_of_lt (za3 (g := gb299) (o := .cells #[.int .i64 x300000_3, .int .i64 x300001_3] 24 (0, 0)) (by (with_reducible repeat (first | apply zae | apply zai | apply zad)); exact BK299.out)) : gb299 ≠ gb305))
                 have n12_ := Aside0.mk n11_.out.symm
                 clear BK294 BK295 BK299 HB
                 have BK294 := n0_
                 have BK295 := n1_
                 have BK299 := n2_
                 have HB := n3_
                 have BK305 := n4_
                 have GW305 := n5_
                 have GE305 := n6_
                 have NB294_305 := n7_
                 have NB305_294 := n8_
                 have NB295_305 := n9_
                 have NB305_295 := n10_
                 have NB299_305 := n11_
                 have NB305_299 := n12_
                 clear n0_ n1_ n2_ n3_ n4_ n5_ n6_ n7_ n8_ n9_ n10_ n11_ n12_ hb hbox hg
                 refine hK.out _ _ ⟨(zak BK294.out 0).trans rfl, (zak BK294.out 1).trans rfl, (zak BK294.out 2).trans rfl, ((HB.out.cell (World.block_lt_of_cell? w _ hw300_0)).trans hw300_0), ((HB.out.cell (World.block_lt_of_cell? w _ hw300_1)).trans hw300_1), ((HB.out.cell (World.block_lt_of_cell? w _ hw301_0)).trans hw301_0), ((HB.out.cell (World.block_lt_of_cell? w _ hw301_1)).trans hw301_1)⟩ (fun hHeld => ?_)
                 clear hK K
                 refine zbE (a' := ?_) ?_ ?_
                 rotate_left
                 ·show Act.put _ (some 9) _ = _
                  simp only [Act.put, List.setIfInBounds_toArray, List.set_cons_zero, List.set_cons_succ, zaL, zaN]
                  rfl
                 exact zbE (by simp only [zbb, Act.put, List.setIfInBounds_toArray, List.set_cons_zero, List.set_cons_succ]) (hCont (gb305) _ ⟨hHeld, (by (with_reducible repeat (first | apply zae | apply zai | apply zad)); exact BK294.out), (by (with_reducible repeat (first | apply zae | apply zai | apply zad)); exact BK295.out), (by (with_reducible repeat (first | apply zae | apply zai | apply zad)); exact BK299.out), (by (with_reducible repeat (first | apply zae | apply zai | apply zad)); exact BK305.out), GW305.out, GE305.out, NB294_305.out, NB305_294.out, NB295_305.out, NB305_295.out, NB299_305.out, NB305_299.out, (by repeat (first | (with_reducible first | exact HB.out | apply zac | apply zaa | apply zaf | refine zab ?_ GE294.out | refine zab ?_ GE295.out | refine zab ?_ GE299.out | refine zab ?_ GE305.out) | exact HB.out))⟩)
                ·skip
                 refine zdh ?hg (N := 9) ?hd (cs := #[.int .i64 0, .int .i64 0]) (t := 24) ?hr ?_; (case hd => rfl); (case hg => rfl); (case hr => first | (go_simp; done) | (go_simp; rfl))
                 intro gb305 hg w44 hbox hb
                 have n0_ := Aside0.mk (zaj (g := gb294) (o := .cells #[.slice (some ad300) l0_0.length c0_0, .int .i64 a0_1, .int .i64 a0_2] 26 (0, 0)) (by (with_reducible repeat (first | apply zae | apply zai | apply zad)); exact BK294.out) hb)
                 have n1_ := Aside0.mk (zaj (g := gb295) (o := .cells #[.int .i64 x296000_3, .int .i64 x296001_3] 24 (0, 0)) (by (with_reducible repeat (first | apply zae | apply zai | apply zad)); exact BK295.out) hb)
                 have n2_ := Aside0.mk (zaj (g := gb299) (o := .cells #[.int .i64 x300000_3, .int .i64 x300001_3] 24 (0, 0)) (by (with_reducible repeat (first | apply zae | apply zai | apply zad)); exact BK299.out) hb)
                 have n3_ := Aside0.mk (zam (by repeat (first | (with_reducible first | exact HB.out | apply zac | apply zaa | apply zaf | refine zab ?_ GE294.out | refine zab ?_ GE295.out | refine zab ?_ GE299.out) | exact HB.out)) hb)
                 have n4_ := Aside0.mk (hbox)
                 have n5_ := Aside0.mk ((by rw [hg]; exact (zao (by repeat (first | (with_reducible first | exact HB.out | apply zac | apply zaa | apply zaf | refine zab ?_ GE294.out | refine zab ?_ GE295.out | refine zab ?_ GE299.out) | exact HB.out))) : w.heap.size ≤ gb305))
                 have n6_ := n5_
                 have n7_ := Aside0.mk ((by rw [hg]; exact Nat.ne_of_lt (za3 (g := gb294) (o := .cells #[.slice (some ad300) l0_0.length c0_0, .int .i64 a0_1, .int .i64 a0_2] 26 (0, 0)) (by (with_reducible repeat (first | apply zae | apply zai | apply zad)); exact BK294.out)) : gb294 ≠ gb305))
                 have n8_ := Aside0.mk n7_.out.symm
                 have n9_ := Aside0.mk ((by rw [hg]; exact Nat.ne_of_lt (za3 (g := gb295) (o := .cells #[.int .i64 x296000_3, .int .i64 x296001_3] 24 (0, 0)) (by (with_reducible repeat (first | apply zae | apply zai | apply zad)); exact BK295.out)) : gb295 ≠ gb305))
                 have n10_ := Aside0.mk n9_.out.symm
                 have n11_ := Aside0.mk ((by rw [hg]; exact Nat.ne_of_lt (za3 (g := gb299) (o := .cells #[.int .i64 x300000_3, .int .i64 x300001_3] 24 (0, 0)) (by (with_reducible repeat (first | apply zae | apply zai | apply zad)); exact BK299.out)) : gb299 ≠ gb305))
                 have n12_ := Aside0.mk n11_.out.symm
                 clear BK294 BK295 BK299 HB
                 have BK294 := n0_
                 have BK295 := n1_
                 have BK299 := n2_
                 have HB := n3_
                 have BK305 := n4_
                 have GW305 := n5_
                 have GE305 := n6_
                 have NB294_305 := n7_
                 have NB305_294 := n8_
                 have NB295_305 := n9_
                 have NB305_295 := n10_
                 have NB299_305 := n11_
                 have NB305_299 := n12_
                 clear n0_ n1_ n2_ n3_ n4_ n5_ n6_ n7_ n8_ n9_ n10_ n11_ n12_ hb hbox hg
                 refine hK.out _ _ ⟨(zak BK294.out 0).trans rfl, (zak BK294.out 1).trans rfl, (zak BK294.out 2).trans rfl, ((HB.out.cell (World.block_lt_of_cell? w _ hw300_0)).trans hw300_0), ((HB.out.cell (World.block_lt_of_cell? w _ hw300_1)).trans hw300_1), ((HB.out.cell (World.block_lt_of_cell? w _ hw301_0)).trans hw301_0), ((HB.out.cell (World.block_lt_of_cell? w _ hw301_1)).trans hw301_1)⟩ (fun hHeld => ?_)
                 clear hK K
                 refine zbE (a' := ?_) ?_ ?_
                 rotate_left
                 ·show Act.put _ (some 9) _ = _
                  simp only [Act.put, List.setIfInBounds_toArray, List.set_cons_zero, List.set_cons_succ, zaL, zaN]
                  rfl
                 refine one_ (i := 9) (N := some 57) #[true, true, true, true, true, true, true, true, true, true, false, false, false, true, false, false] rfl rfl (zbK HT_.out (by kernel_rfl)) (by decide) (fun K hK => ?_)
                 refine zce Tryd.func26 (by kernel_rfl) rfl #[.int .i64 2, .agg #[.int .i64 ((zaC l0_0 x8_3).f0), .int .i64 ((zaC l0_0 x8_3).f1)], .agg #[.int .i64 ((zaC l1 x8_3).f0), .int .i64 ((zaC l1 x8_3).f1)]] (by rfl) rfl rfl (by (try simp only [List.map_toArray, List.map_cons, List.map_nil]); first | done | rfl | (simp only [List.length_drop, List.length_take]; rfl)) ?_
                 with_reducible refine (za2.calls 2 ((zaC l0_0 x8_3).f0) ((zaC l0_0 x8_3).f1) ((zaC l1 x8_3).f0) ((zaC l1 x8_3).f1) t302 t303 t304 _ A39.out).mono ?_
                 rintro e w45 ⟨rfl, hb⟩
                 refine ⟨_, rfl, ?_⟩
                 have n0_ := Aside0.mk (zaj (g := gb294) (o := .cells #[.slice (some ad300) l0_0.length c0_0, .int .i64 a0_1, .int .i64 a0_2] 26 (0, 0)) (by (with_reducible repeat (first | apply zae | apply zai | apply zad)); exact BK294.out) hb)
                 have n1_ := Aside0.mk (zaj (g := gb295) (o := .cells #[.int .i64 x296000_3, .int .i64 x296001_3] 24 (0, 0)) (by (with_reducible repeat (first | apply zae | apply zai | apply zad)); exact BK295.out) hb)
                 have n2_ := Aside0.mk (zaj (g := gb299) (o := .cells #[.int .i64 x300000_3, .int .i64 x300001_3] 24 (0, 0)) (by (with_reducible repeat (first | apply zae | apply zai | apply zad)); exact BK299.out) hb)
                 have n3_ := Aside0.mk (zaj (g := gb305) (o := .cells #[.int .i64 0, .int .i64 0] 24 (0, 0)) (by (with_reducible repeat (first | apply zae | apply zai | apply zad)); exact BK305.out) hb)
                 have n4_ := Aside0.mk (zam (by repeat (first | (with_reducible first | exact HB.out | apply zac | apply zaa | apply zaf | refine zab ?_ GE294.out | refine zab ?_ GE295.out | refine zab ?_ GE299.out | refine zab ?_ GE305.out) | exact HB.out)) hb)
                 clear BK294 BK295 BK299 BK305 HB
                 have BK294 := n0_
                 have BK295 := n1_
                 have BK299 := n2_
                 have BK305 := n3_
                 have HB := n4_
                 clear n0_ n1_ n2_ n3_ n4_
                 (try clear hb)
                 (try clear hb2)
                 (try clear hk)
                 (try clear hi)
                 refine hK.out _ _ ⟨(zak BK294.out 0).trans rfl, (zak BK294.out 1).trans rfl, (zak BK294.out 2).trans rfl, ((HB.out.cell (World.block_lt_of_cell? w _ hw300_0)).trans hw300_0), ((HB.out.cell (World.block_lt_of_cell? w _ hw300_1)).trans hw300_1), ((HB.out.cell (World.block_lt_of_cell? w _ hw301_0)).trans hw301_0), ((HB.out.cell (World.block_lt_of_cell? w _ hw301_1)).trans hw301_1)⟩ (fun hHeld => ?_)
                 clear hK K
                 refine zbE (a' := ?_) ?_ ?_
                 rotate_left
                 ·show Act.put _ (some 57) _ = _
                  simp only [Act.put, List.setIfInBounds_toArray, List.set_cons_zero, List.set_cons_succ, zaL, zaN]
                  rfl
                 refine zbB (i := 10) (N := some 47) (v := ?_) (a' := ?_) #[true, true, true, true, true, true, true, true, true, true, true, false, false, true, false, false] rfl rfl (zbm HT_.out (by kernel_rfl)) (fun _ _ _ h => h) (Or.inl ⟨by rfl, ?_⟩) ?_ ?_
                 rotate_left
                 ·intro w'
                  go_simp
                  with_reducible rfl
                 rotate_left
                 ·simp only [Act.put, List.setIfInBounds_toArray, List.set_cons_zero, List.set_cons_succ, zaL, zaN]
                  rfl
                 refine zbB (i := 11) (N := some 58) (v := ?_) (a' := ?_) #[true, true, true, true, true, true, true, true, true, true, true, true, false, true, false, false] rfl rfl (zbm HT_.out (by kernel_rfl)) (fun _ _ _ h => h) (Or.inl ⟨by rfl, ?_⟩) ?_ ?_
                 rotate_left
                 ·intro w'
                  go_simp
                  with_reducible rfl
                 rotate_left
                 ·simp only [Act.put, List.setIfInBounds_toArray, List.set_cons_zero, List.set_cons_succ, zaL, zaN]
                  rfl
                 refine zbB (i := 12) (N := some 59) (v := ?_) (a' := ?_) #[true, true, true, true, true, true, true, true, true, true, true, true, true, true, false, false] rfl rfl (zbm HT_.out (by kernel_rfl)) (fun _ _ _ h => h) (Or.inl ⟨by rfl, ?_⟩) ?_ ?_
                 rotate_left
                 ·intro w'
                  go_simp
                  with_reducible rfl
                 rotate_left
                 ·simp only [Act.put, List.setIfInBounds_toArray, List.set_cons_zero, List.set_cons_succ, zaL, zaN]
                  rfl
                 exact zbE (by simp only [zbb, Act.put, List.setIfInBounds_toArray, List.set_cons_zero, List.set_cons_succ]) (hCont (gb305) _ ⟨hHeld, (by (with_reducible repeat (first | apply zae | apply zai | apply zad)); exact BK294.out), (by (with_reducible repeat (first | apply zae | apply zai | apply zad)); exact BK295.out), (by (with_reducible repeat (first | apply zae | apply zai | apply zad)); exact BK299.out), (by (with_reducible repeat (first | apply zae | apply zai | apply zad)); exact BK305.out), GW305.out, GE305.out, NB294_305.out, NB305_294.out, NB295_305.out, NB305_295.out, NB299_305.out, NB305_299.out, (by repeat (first | (with_reducible first | exact HB.out | apply zac | apply zaa | apply zaf | refine zab ?_ GE294.out | refine zab ?_ GE295.out | refine zab ?_ GE299.out | refine zab ?_ GE305.out) | exact HB.out))⟩)
               rintro gb305 w46 ⟨hS_, h0_, h1_, h2_, h3_, h4_, h5_, h6_, h7_, h8_, h9_, h10_, h11_, h12_⟩
               have n0_ : Aside0 (w46.heap[gb294]? = some (.cells #[.slice (some ad300) l0_0.length c0_0, .int .i64 a0_1, .int .i64 a0_2] 26 (0, 0))) := ⟨h0_⟩
               have n1_ : Aside0 (w46.heap[gb295]? = some (.cells #[.int .i64 x296000_3, .int .i64 x296001_3] 24 (0, 0))) := ⟨h1_⟩
               have n2_ : Aside0 (w46.heap[gb299]? = some (.cells #[.int .i64 x300000_3, .int .i64 x300001_3] 24 (0, 0))) := ⟨h2_⟩
               have n3_ : Aside0 (w46.heap[gb305]? = some (.cells #[.int .i64 0, .int .i64 0] 24 (0, 0))) := ⟨h3_⟩
               have n4_ : Aside0 (w.heap.size ≤ gb305) := ⟨h4_⟩
               have n5_ : Aside0 (w.heap.size ≤ gb305) := ⟨h5_⟩
               have n6_ : Aside0 (gb294 ≠ gb305) := ⟨h6_⟩
               have n7_ : Aside0 (gb305 ≠ gb294) := ⟨h7_⟩
               have n8_ : Aside0 (gb295 ≠ gb305) := ⟨h8_⟩
               have n9_ : Aside0 (gb305 ≠ gb295) := ⟨h9_⟩
               have n10_ : Aside0 (gb299 ≠ gb305) := ⟨h10_⟩
               have n11_ : Aside0 (gb305 ≠ gb299) := ⟨h11_⟩
               have n12_ : Aside0 (Below w.heap.size w w46) := ⟨h12_⟩
               clear BK294 BK295 BK299 HB h0_ h1_ h2_ h3_ h4_ h5_ h6_ h7_ h8_ h9_ h10_ h11_ h12_
               have BK294 := n0_
               have BK295 := n1_
               have BK299 := n2_
               have BK305 := n3_
               have GW305 := n4_
               have GE305 := n5_
               have NB294_305 := n6_
               have NB305_294 := n7_
               have NB295_305 := n8_
               have NB305_295 := n9_
               have NB299_305 := n10_
               have NB305_299 := n11_
               have HB := n12_
               clear n0_ n1_ n2_ n3_ n4_ n5_ n6_ n7_ n8_ n9_ n10_ n11_ n12_
               have hHeld : w46.cell? ⟨gb294, 0, none⟩ = some (.slice (some ad300) l0_0.length c0_0) ∧ w46.cell? ⟨gb294, 1, none⟩ = some (.int .i64 a0_1) ∧ w46.cell? ⟨gb294, 2, none⟩ = some (.int .i64 a0_2) ∧ w46.cell? (ad300.add ((x8_3).toNat * 2)) = some (.int .i64 ((zaC l0_0 x8_3).f0)) ∧ w46.cell? ⟨(ad300.add ((x8_3).toNat * 2)).block, (ad300.add ((x8_3).toNat * 2)).off + 1, none⟩ = some (.int .i64 ((zaC l0_0 x8_3).f1)) ∧ w46.cell? (ad301.add ((x8_3).toNat * 2)) = some (.int .i64 ((zaC l1 x8_3).f0)) ∧ w46.cell? ⟨(ad301.add ((x8_3).toNat * 2)).block, (ad301.add ((x8_3).toNat * 2)).off + 1, none⟩ = some (.int .i64 ((zaC l1 x8_3).f1)) := hS_
               refine zbE (a' := ?_) ?_ ?_
               rotate_left
               ·simp only [zbb, Act.put, List.setIfInBounds_toArray, List.set_cons_zero, List.set_cons_succ]
                rfl
               refine one_ (i := 14) (N := none) #[true, true, true, true, true, true, true, true, true, true, true, true, true, true, true, false] rfl rfl (zbK HT_.out (by kernel_rfl)) (by decide) (fun K hK => ?_)
               have hs47 : w46.cell? ⟨gb305, 0, none⟩ = some (.int .i64 0) := (zak BK305.out 0).trans rfl
               have hfs47 := zah BK305.out 0
               have hns47_0 := NB294_305.out
               have hns47_1 := NB295_305.out
               have hns47_2 := NB299_305.out
               have hms47_0 := NB305_294.out
               have hms47_1 := NB305_295.out
               have hms47_2 := NB305_299.out
               have hs48 : w46.cell? ⟨gb305, 1, none⟩ = some (.int .i64 0) := (zak BK305.out 1).trans rfl
               have hfs48 := zah BK305.out 1
               have hns48_0 := NB294_305.out
               have hns48_1 := NB295_305.out
               have hns48_2 := NB299_305.out
               have hms48_0 := NB305_294.out
               have hms48_1 := NB305_295.out
               have hms48_2 := NB305_299.out
               refine zd1 (w1 := ?_) (by rfl) rfl ?_ ?_
               rotate_left
               ·go_simp
                rfl
               refine hK.out _ _ ⟨((cell_far (p := ⟨gb305, _, none⟩) NB294_305.out _).trans (((cell_far (p := ⟨gb305, _, none⟩) NB294_305.out _).trans (hHeld.1)))), ((cell_far (p := ⟨gb305, _, none⟩) NB294_305.out _).trans (((cell_far (p := ⟨gb305, _, none⟩) NB294_305.out _).trans (hHeld.2.1)))), ((cell_far (p := ⟨gb305, _, none⟩) NB294_305.out _).trans (((cell_far (p := ⟨gb305, _, none⟩) NB294_305.out _).trans (hHeld.2.2.1)))), ((cell_far (p := ⟨gb305, _, none⟩) (by first | exact Nat.ne_of_lt (Nat.lt_of_lt_of_le (by have := World.block_lt_of_cell? _ _ hw300_0; first | rwa [add_block] at this | exact this) GW305.out) | (rw [add_block]; exact Nat.ne_of_lt (Nat.lt_of_lt_of_le (by have := World.block_lt_of_cell? _ _ hw300_0; first | rwa [add_block] at this | exact this) GW305.out)) | (show (Addr.add _ _).block ≠ _; rw [add_block]; exact Nat.ne_of_lt (Nat.lt_of_lt_of_le (by have := World.block_lt_of_cell? _ _ hw300_0; first | rwa [add_block] at this | exact this) GW305.out)) | (dsimp only; exact Nat.ne_of_lt (Nat.lt_of_lt_of_le (by have := World.block_lt_of_cell? _ _ hw300_0; first | rwa [add_block] at this | exact this) GW305.out))) _).trans (((cell_far (p := ⟨gb305, _, none⟩) (by first | exact Nat.ne_of_lt (Nat.lt_of_lt_of_le (by have := World.block_lt_of_cell? _ _ hw300_0; first | rwa [add_block] at this | exact this) GW305.out) | (rw [add_block]; exact Nat.ne_of_lt (Nat.lt_of_lt_of_le (by have := World.block_lt_of_cell? _ _ hw300_0; first | rwa [add_block] at this | exact this) GW305.out)) | (show (Addr.add _ _).block ≠ _; rw [add_block]; exact Nat.ne_of_lt (Nat.lt_of_lt_of_le (by have := World.block_lt_of_cell? _ _ hw300_0; first | rwa [add_block] at this | exact this) GW305.out)) | (dsimp only; exact Nat.ne_of_lt (Nat.lt_of_lt_of_le (by have := World.block_lt_of_cell? _ _ hw300_0; first | rwa [add_block] at this | exact this) GW305.out))) _).trans (hHeld.2.2.2.1)))), ((cell_far (p := ⟨gb305, _, none⟩) (by first | exact Nat.ne_of_lt (Nat.lt_of_lt_of_le (by have := World.block_lt_of_cell? _ _ hw300_1; first | rwa [add_block] at this | exact this) GW305.out) | (rw [add_block]; exact Nat.ne_of_lt (Nat.lt_of_lt_of_le (by have := World.block_lt_of_cell? _ _ hw300_1; first | rwa [add_block] at this | exact this) GW305.out)) | (show (Addr.add _ _).block ≠ _; rw [add_block]; exact Nat.ne_of_lt (Nat.lt_of_lt_of_le (by have := World.block_lt_of_cell? _ _ hw300_1; first | rwa [add_block] at this | exact this) GW305.out)) | (dsimp only; exact Nat.ne_of_lt (Nat.lt_of_lt_of_le (by have := World.block_lt_of_cell? _ _ hw300_1; first | rwa [add_block] at this | exact this) GW305.out))) _).trans (((cell_far (p := ⟨gb305, _, none⟩) (by first | exact Nat.ne_of_lt (Nat.lt_of_lt_of_le (by have := World.block_lt_of_cell? _ _ hw300_1; first | rwa [add_block] at this | exact this) GW305.out) | (rw [add_block]; exact Nat.ne_of_lt (Nat.lt_of_lt_of_le (by have := World.block_lt_of_cell? _ _ hw300_1; first | rwa [add_block] at this | exact this) GW305.out)) | (show (Addr.add _ _).block ≠ _; rw [add_block]; exact Nat.ne_of_lt (Nat.lt_of_lt_of_le (by have := World.block_lt_of_cell? _ _ hw300_1; first | rwa [add_block] at this | exact this) GW305.out)) | (dsimp only; exact Nat.ne_of_lt (Nat.lt_of_lt_of_le (by have := World.block_lt_of_cell? _ _ hw300_1; first | rwa [add_block] at this | exact this) GW305.out))) _).trans (hHeld.2.2.2.2.1)))), ((cell_far (p := ⟨gb305, _, none⟩) (by first | exact Nat.ne_of_lt (Nat.lt_of_lt_of_le (by have := World.block_lt_of_cell? _ _ hw301_0; first | rwa [add_block] at this | exact this) GW305.out) | (rw [add_block]; exact Nat.ne_of_lt (Nat.lt_of_lt_of_le (by have := World.block_lt_of_cell? _ _ hw301_0; first | rwa [add_block] at this | exact this) GW305.out)) | (show (Addr.add _ _).block ≠ _; rw [add_block]; exact Nat.ne_of_lt (Nat.lt_of_lt_of_le (by have := World.block_lt_of_cell? _ _ hw301_0; first | rwa [add_block] at this | exact this) GW305.out)) | (dsimp only; exact Nat.ne_of_lt (Nat.lt_of_lt_of_le (by have := World.block_lt_of_cell? _ _ hw301_0; first | rwa [add_block] at this | exact this) GW305.out))) _).trans (((cell_far (p := ⟨gb305, _, none⟩) (by first | exact Nat.ne_of_lt (Nat.lt_of_lt_of_le (by have := World.block_lt_of_cell? _ _ hw301_0; first | rwa [add_block] at this | exact this) GW305.out) | (rw [add_block]; exact Nat.ne_of_lt (Nat.lt_of_lt_of_le (by have := World.block_lt_of_cell? _ _ hw301_0; first | rwa [add_block] at this | exact this) GW305.out)) | (show (Addr.add _ _).block ≠ _; rw [add_block]; exact Nat.ne_of_lt (Nat.lt_of_lt_of_le (by have := World.block_lt_of_cell? _ _ hw301_0; first | rwa [add_block] at this | exact this) GW305.out)) | (dsimp only; exact Nat.ne_of_lt (Nat.lt_of_lt_of_le (by have := World.block_lt_of_cell? _ _ hw301_0; first | rwa [add_block] at this | exact this) GW305.out))) _).trans (hHeld.2.2.2.2.2.1)))), ((cell_far (p := ⟨gb305, _, none⟩) (by first | exact Nat.ne_of_lt (Nat.lt_of_lt_of_le (by have := World.block_lt_of_cell? _ _ hw301_1; first | rwa [add_block] at this | exact this) GW305.out) | (rw [add_block]; exact Nat.ne_of_lt (Nat.lt_of_lt_of_le (by have := World.block_lt_of_cell? _ _ hw301_1; first | rwa [add_block] at this | exact this) GW305.out)) | (show (Addr.add _ _).block ≠ _; rw [add_block]; exact Nat.ne_of_lt (Nat.lt_of_lt_of_le (by have := World.block_lt_of_cell? _ _ hw301_1; first | rwa [add_block] at this | exact this) GW305.out)) | (dsimp only; exact Nat.ne_of_lt (Nat.lt_of_lt_of_le (by have := World.block_lt_of_cell? _ _ hw301_1; first | rwa [add_block] at this | exact this) GW305.out))) _).trans (((cell_far (p := ⟨gb305, _, none⟩) (by first | exact Nat.ne_of_lt (Nat.lt_of_lt_of_le (by have := World.block_lt_of_cell? _ _ hw301_1; first | rwa [add_block] at this | exact this) GW305.out) | (rw [add_block]; exact Nat.ne_of_lt (Nat.lt_of_lt_of_le (by have := World.block_lt_of_cell? _ _ hw301_1; first | rwa [add_block] at this | exact this) GW305.out)) | (show (Addr.add _ _).block ≠ _; rw [add_block]; exact Nat.ne_of_lt (Nat.lt_of_lt_of_le (by have := World.block_lt_of_cell? _ _ hw301_1; first | rwa [add_block] at this | exact this) GW305.out)) | (dsimp only; exact Nat.ne_of_lt (Nat.lt_of_lt_of_le (by have := World.block_lt_of_cell? _ _ hw301_1; first | rwa [add_block] at this | exact this) GW305.out))) _).trans (hHeld.2.2.2.2.2.2))))⟩ (fun hHeld => ?_)
               clear hK K
               refine zbB (i := 15) (N := some 10) (v := ?_) (a' := ?_) #[true, true, true, true, true, true, true, true, true, true, true, true, true, true, true, true] rfl rfl (zbm HT_.out (by kernel_rfl)) (fun _ _ _ h => h) (Or.inl ⟨by rfl, ?_⟩) ?_ ?_
               rotate_left
               ·intro w'
                go_simp
                with_reducible rfl
               rotate_left
               ·simp only [Act.put, List.setIfInBounds_toArray, List.set_cons_zero, List.set_cons_succ, zaL, zaN]
                rfl
               refine zdK (zcu HT_.out (by kernel_rfl)) ?_
               have H := HX.out
               clear HX
               by_cases c40 : t304 = 0
               ·rw [if_pos c40] at H
                have c40b0 : (t304 == 0) = true := beq_iff_eq.mpr c40
                have c40b1 : (t304 != 0) = false := bne_eq_false_iff_eq.mpr c40
                clear c40
                replace H := Option.bind_eq_some_iff.mp H
                obtain ⟨⟨t306, t307, t308⟩, A410, H⟩ := H
                replace H : (if t308 = 0 then (zan.l1 kj26 l1 (wrap64 (x8_3 + 1)) l0_0 a0_1 a0_2 t306 t307) else (some (0, 0, t308))) = some (r1, r2, r3) := H
                have A41 := Aside0.mk A410
                clear A410
                have hnb49 := NB299_294.out
                have hnc49 := NB294_299.out
                have hnb50 := NB299_295.out
                have hnc50 := NB295_299.out
                have hnb51 := NB299_305.out
                have hnc51 := NB305_299.out
                have hcz52_0 : w46.cell? ⟨gb299, 0, none⟩ = some (.int .i64 x300000_3) := (zak BK299.out 0).trans rfl
                have hcz52_1 : w46.cell? ⟨gb299, 1, none⟩ = some (.int .i64 x300001_3) := (zak BK299.out 1).trans rfl
                have hfz52_0 := zah BK299.out 0
                have hfz52_1 := zah BK299.out 1
                have hnb53 := NB305_294.out
                have hnc53 := NB294_305.out
                have hnb54 := NB305_295.out
                have hnc54 := NB295_305.out
                have hcz55_0 : w46.cell? ⟨gb305, 0, none⟩ = some (.int .i64 0) := (zak BK305.out 0).trans rfl
                have hcz55_1 : w46.cell? ⟨gb305, 1, none⟩ = some (.int .i64 0) := (zak BK305.out 1).trans rfl
                have hfz55_0 := zah BK305.out 0
                have hfz55_1 := zah BK305.out 1
                by_cases c42 : t308 = 0
                ·rw [if_pos c42] at H
                 have c42b0 : (t308 == 0) = true := beq_iff_eq.mpr c42
                 have c42b1 : (t308 != 0) = false := bne_eq_false_iff_eq.mpr c42
                 clear c42
                 have H' := Aside0.mk H
                 clear H
                 try go_wp2_with (first | ((with_reducible refine zat (f := 26) rfl ?_); refine za9 (some 67) rfl rfl Tryd.func26 (by kernel_rfl) rfl #[.int .i64 0, .agg #[.int .i64 x300000_3, .int .i64 x300001_3], .agg #[.int .i64 t302, .int .i64 t303]] rfl (by (try simp only [List.map_toArray, List.map_cons, List.map_nil]); first | done | rfl | (simp only [List.length_drop, List.length_take]; rfl)) ?_; (with_reducible refine (za2.calls 0 x300000_3 x300001_3 t302 t303 t306 t307 t308 _ A41.out).mono ?_); rintro e w56 ⟨rfl, hb⟩; refine ⟨_, rfl, ?_⟩; have n0_ := Aside0.mk (zaj (g := gb294) (o := .cells #[.slice (some ad300) l0_0.length c0_0, .int .i64 a0_1, .int .i64 a0_2] 26 (0, 0)) (by (repeat (first | (with_reducible first | apply zae | apply zai | apply zad) | refine zaA ?_ NB294_305.out _)); exact BK294.out) hb); have n1_ := Aside0.mk (zaj (g := gb295) (o := .cells #[.int .i64 x296000_3, .int .i64 x296001_3] 24 (0, 0)) (by (repeat (first | (with_reducible first | apply zae | apply zai | apply zad) | refine zaA ?_ NB295_305.out _)); exact BK295.out) hb); have n2_ := Aside0.mk (zaj (g := gb299) (o := .cells #[.int .i64 x300000_3, .int .i64 x300001_3] 24 (0, 0)) (by (repeat (first | (with_reducible first | apply zae | apply zai | apply zad) | refine zaA ?_ NB299_305.out _)); exact BK299.out) hb); have n3_ := Aside0.mk (zaj (g := gb305) (o := .cells #[.int .i64 t302, .int .i64 t303] 24 (0, 0)) (by (with_reducible repeat (first | apply zae | apply zai | apply zad)); refine zay (cs := #[.int .i64 t302, .int .i64 0]) ?_ 1 _ rfl; (with_reducible repeat (first | apply zae | apply zai | apply zad)); refine zay (cs := #[.int .i64 0, .int .i64 0]) ?_ 0 _ rfl; (with_reducible repeat (first | apply zae | apply zai | apply zad)); exact BK305.out) hb); have n4_ := Aside0.mk (zam (by repeat (first | (with_reducible first | exact HB.out | apply zac | apply zaa | apply zaf | refine zab ?_ GE294.out | refine zab ?_ GE295.out | refine zab ?_ GE299.out | refine zab ?_ GE305.out) | exact HB.out)) hb); clear BK294; clear BK295; clear BK299; clear BK305; clear HB; have BK294 := n0_; have BK295 := n1_; have BK299 := n2_; have BK305 := n3_; have HB := n4_; clear n0_ n1_ n2_ n3_ n4_; (try clear hb); (try clear hb2); (try clear hk); (try clear hi); have hcz57_0 : w56.cell? ⟨gb299, 0, none⟩ = some (.int .i64 x300000_3) := (zak BK299.out 0).trans rfl; have hcz57_1 : w56.cell? ⟨gb299, 1, none⟩ = some (.int .i64 x300001_3) := (zak BK299.out 1).trans rfl; have hfz57_0 := zah BK299.out 0; have hfz57_1 := zah BK299.out 1))
                 go_roundg kj26
                 case measure => have := HK1.out; have := HJ9.out; have := HK3.out; have := HJ26.out; omega
                 case rel => exact ⟨(wrap64 (x8_3 + 1)), (x296000_3), (x296001_3), (t306), (t307), (by first | rfl | (simp; done) | (simp [*]; done)), H', ⟨by have := HK1.out; have := HJ9.out; have := HK3.out; have := HJ26.out; omega⟩, ⟨by (repeat (first | (with_reducible first | apply zae | apply zai | apply zad) | refine zaA ?_ NB294_299.out _)); exact BK294.out⟩, ⟨by (repeat (first | (with_reducible first | apply zae | apply zai | apply zad) | refine zaA ?_ NB295_299.out _)); exact BK295.out⟩, ⟨by (with_reducible repeat (first | apply zae | apply zai | apply zad)); refine zay (cs := #[.int .i64 t306, .int .i64 x300001_3]) ?_ 1 _ rfl; (with_reducible repeat (first | apply zae | apply zai | apply zad)); refine zay (cs := #[.int .i64 x300000_3, .int .i64 x300001_3]) ?_ 0 _ rfl; (with_reducible repeat (first | apply zae | apply zai | apply zad)); exact BK299.out⟩, ⟨by repeat (first | (with_reducible first | exact HB.out | apply zac | apply zaa | apply zaf | refine zab ?_ GE294.out | refine zab ?_ GE295.out | refine zab ?_ GE299.out | refine zab ?_ GE305.out) | exact HB.out)⟩⟩
                ·rw [if_neg c42] at H
                 have c42b0 : (t308 == 0) = false := beq_eq_false_iff_ne.mpr c42
                 have c42b1 : (t308 != 0) = true := bne_iff_ne.mpr c42
                 simp only [Option.some.injEq, Prod.mk.injEq] at H
                 obtain ⟨rfl, rfl, rfl⟩ := H
                 try go_wp2_with (first | ((with_reducible refine zat (f := 26) rfl ?_); refine za9 (some 67) rfl rfl Tryd.func26 (by kernel_rfl) rfl #[.int .i64 0, .agg #[.int .i64 x300000_3, .int .i64 x300001_3], .agg #[.int .i64 t302, .int .i64 t303]] rfl (by (try simp only [List.map_toArray, List.map_cons, List.map_nil]); first | done | rfl | (simp only [List.length_drop, List.length_take]; rfl)) ?_; (with_reducible refine (za2.calls 0 x300000_3 x300001_3 t302 t303 t306 t307 t308 _ A41.out).mono ?_); rintro e w71 ⟨rfl, hb⟩; refine ⟨_, rfl, ?_⟩; have n0_ := Aside0.mk (zaj (g := gb294) (o := .cells #[.slice (some ad300) l0_0.length c0_0, .int .i64 a0_1, .int .i64 a0_2] 26 (0, 0)) (by (repeat (first | (with_reducible first | apply zae | apply zai | apply zad) | refine zaA ?_ NB294_305.out _)); exact BK294.out) hb); have n1_ := Aside0.mk (zaj (g := gb295) (o := .cells #[.int .i64 x296000_3, .int .i64 x296001_3] 24 (0, 0)) (by (repeat (first | (with_reducible first | apply zae | apply zai | apply zad) | refine zaA ?_ NB295_305.out _)); exact BK295.out) hb); have n2_ := Aside0.mk (zaj (g := gb299) (o := .cells #[.int .i64 x300000_3, .int .i64 x300001_3] 24 (0, 0)) (by (repeat (first | (with_reducible first | apply zae | apply zai | apply zad) | refine zaA ?_ NB299_305.out _)); exact BK299.out) hb); have n3_ := Aside0.mk (zaj (g := gb305) (o := .cells #[.int .i64 t302, .int .i64 t303] 24 (0, 0)) (by (with_reducible repeat (first | apply zae | apply zai | apply zad)); refine zay (cs := #[.int .i64 t302, .int .i64 0]) ?_ 1 _ rfl; (with_reducible repeat (first | apply zae | apply zai | apply zad)); refine zay (cs := #[.int .i64 0, .int .i64 0]) ?_ 0 _ rfl; (with_reducible repeat (first | apply zae | apply zai | apply zad)); exact BK305.out) hb); have n4_ := Aside0.mk (zam (by repeat (first | (with_reducible first | exact HB.out | apply zac | apply zaa | apply zaf | refine zab ?_ GE294.out | refine zab ?_ GE295.out | refine zab ?_ GE299.out | refine zab ?_ GE305.out) | exact HB.out)) hb); clear BK294; clear BK295; clear BK299; clear BK305; clear HB; have BK294 := n0_; have BK295 := n1_; have BK299 := n2_; have BK305 := n3_; have HB := n4_; clear n0_ n1_ n2_ n3_ n4_; (try clear hb); (try clear hb2); (try clear hk); (try clear hi); have hcz72_0 : w71.cell? ⟨gb299, 0, none⟩ = some (.int .i64 x300000_3) := (zak BK299.out 0).trans rfl; have hcz72_1 : w71.cell? ⟨gb299, 1, none⟩ = some (.int .i64 x300001_3) := (zak BK299.out 1).trans rfl; have hfz72_0 := zah BK299.out 0; have hfz72_1 := zah BK299.out 1; have hnb73 := NB295_294.out; have hnc73 := NB294_295.out; have hcz74_0 : w71.cell? ⟨gb295, 0, none⟩ = some (.int .i64 x296000_3) := (zak BK295.out 0).trans rfl; have hcz74_1 : w71.cell? ⟨gb295, 1, none⟩ = some (.int .i64 x296001_3) := (zak BK295.out 1).trans rfl; have hfz74_0 := zah BK295.out 0; have hfz74_1 := zah BK295.out 1))
                 refine bodyPost_ret (za7 rfl _ _ gb295 24 #[.int .i64 0, .int .i64 0] (0, 0) _ rfl (by (with_reducible repeat (first | apply zae | apply zai | apply zad)); refine zay (cs := #[.int .i64 0, .int .i64 x296001_3]) ?_ 1 _ rfl; (with_reducible repeat (first | apply zae | apply zai | apply zad)); refine zay (cs := #[.int .i64 x296000_3, .int .i64 x296001_3]) ?_ 0 _ rfl; (repeat (first | (with_reducible first | apply zae | apply zai | apply zad) | refine zaA ?_ NB295_299.out _)); exact BK295.out) Tryd.underlying24 rfl (by kernel_rfl)) rfl ?_
                 exact ⟨by first | rfl | (simp [zas, zar] <;> rfl) | (simp [*, zas, zar] <;> rfl), by repeat (first | (with_reducible first | exact HB.out | apply zac | apply zaa | apply zaf | refine zab ?_ GE294.out | refine zab ?_ GE295.out | refine zab ?_ GE299.out | refine zab ?_ GE305.out) | exact HB.out)⟩
               ·rw [if_neg c40] at H
                have c40b0 : (t304 == 0) = false := beq_eq_false_iff_ne.mpr c40
                have c40b1 : (t304 != 0) = true := bne_iff_ne.mpr c40
                simp only [Option.some.injEq, Prod.mk.injEq] at H
                obtain ⟨rfl, rfl, rfl⟩ := H
                have hnb81 := NB295_294.out
                have hnc81 := NB294_295.out
                have hnb82 := NB295_299.out
                have hnc82 := NB299_295.out
                have hnb83 := NB295_305.out
                have hnc83 := NB305_295.out
                have hcz84_0 : w46.cell? ⟨gb295, 0, none⟩ = some (.int .i64 x296000_3) := (zak BK295.out 0).trans rfl
                have hcz84_1 : w46.cell? ⟨gb295, 1, none⟩ = some (.int .i64 x296001_3) := (zak BK295.out 1).trans rfl
                have hfz84_0 := zah BK295.out 0
                have hfz84_1 := zah BK295.out 1
                try go_wp2
                refine bodyPost_ret (za7 rfl _ _ gb295 24 #[.int .i64 0, .int .i64 0] (0, 0) _ rfl (by (with_reducible repeat (first | apply zae | apply zai | apply zad)); refine zay (cs := #[.int .i64 0, .int .i64 x296001_3]) ?_ 1 _ rfl; (with_reducible repeat (first | apply zae | apply zai | apply zad)); refine zay (cs := #[.int .i64 x296000_3, .int .i64 x296001_3]) ?_ 0 _ rfl; (repeat (first | (with_reducible first | apply zae | apply zai | apply zad) | refine zaA ?_ NB295_305.out _)); exact BK295.out) Tryd.underlying24 rfl (by kernel_rfl)) rfl ?_
                exact ⟨by first | rfl | (simp [zas, zar] <;> rfl) | (simp [*, zas, zar] <;> rfl), by repeat (first | (with_reducible first | exact HB.out | apply zac | apply zaa | apply zaf | refine zab ?_ GE294.out | refine zab ?_ GE295.out | refine zab ?_ GE299.out | refine zab ?_ GE305.out) | exact HB.out)⟩
              ·rw [if_neg c38] at H
               exact absurd H (by simp)
             ·rw [if_neg c37] at H
              exact absurd H (by simp)
            ·rw [if_neg c36] at H
             exact absurd H (by simp)
           ·replace c35 := Bool.eq_false_iff.mpr c35
            subst c35
            have H1 : (some (x300000_3, x300001_3, 0)) = some (r1, r2, r3) := by rw [if_neg (show ¬ (false = true) by decide)] at H; exact H
            clear H
            have H := H1
            clear H1
            simp only [Option.some.injEq, Prod.mk.injEq] at H
            obtain ⟨rfl, rfl, rfl⟩ := H
            have hnb85 := NB299_294.out
            have hnc85 := NB294_299.out
            have hnb86 := NB299_295.out
            have hnc86 := NB295_299.out
            have hcz87_0 : wc.cell? ⟨gb299, 0, none⟩ = some (.int .i64 x300000_3) := (zak BK299.out 0).trans rfl
            have hcz87_1 : wc.cell? ⟨gb299, 1, none⟩ = some (.int .i64 x300001_3) := (zak BK299.out 1).trans rfl
            have hfz87_0 := zah BK299.out 0
            have hfz87_1 := zah BK299.out 1
            have hnb88 := NB295_294.out
            have hnc88 := NB294_295.out
            have hcz89_0 : wc.cell? ⟨gb295, 0, none⟩ = some (.int .i64 x296000_3) := (zak BK295.out 0).trans rfl
            have hcz89_1 : wc.cell? ⟨gb295, 1, none⟩ = some (.int .i64 x296001_3) := (zak BK295.out 1).trans rfl
            have hfz89_0 := zah BK295.out 0
            have hfz89_1 := zah BK295.out 1
            go_wp2
            refine bodyPost_ret (za7 rfl _ _ gb295 24 #[.int .i64 x300000_3, .int .i64 x300001_3] (0, 0) _ rfl (by (with_reducible repeat (first | apply zae | apply zai | apply zad)); refine zay (cs := #[.int .i64 x300000_3, .int .i64 x296001_3]) ?_ 1 _ rfl; (with_reducible repeat (first | apply zae | apply zai | apply zad)); refine zay (cs := #[.int .i64 x296000_3, .int .i64 x296001_3]) ?_ 0 _ rfl; (with_reducible repeat (first | apply zae | apply zai | apply zad)); exact BK295.out) Tryd.underlying24 rfl (by kernel_rfl)) rfl ?_
            exact ⟨by first | rfl | (simp [zas, zar] <;> rfl) | (simp [*, zas, zar] <;> rfl), by repeat (first | (with_reducible first | exact HB.out | apply zac | apply zaa | apply zaf | refine zab ?_ GE294.out | refine zab ?_ GE295.out | refine zab ?_ GE299.out) | exact HB.out)⟩
 ·replace c4 := Bool.eq_false_iff.mpr c4
  subst c4
  have H1 : (some (0, 0, 2)) = some (r1, r2, r3) := by rw [if_neg (show ¬ (false = true) by decide)] at H; exact H
  clear H
  have H := H1
  clear H1
  simp only [Option.some.injEq, Prod.mk.injEq] at H
  obtain ⟨rfl, rfl, rfl⟩ := H
  go_enter Tryd.func25, Tryd.ntmps25
  go_wp2_with (first | ((with_reducible refine zaK (N := 2) rfl ?_); (try (refine zbn (by rfl) ?_; dsimp only)); refine zaI ?hg (N := 2) ?hd (cs := #[.slice A0_0 l0_0.length c0_0, .int .i64 a0_1, .int .i64 a0_2]) (t := 26) ?hr ?_; (case hd => rfl); (case hg => rfl); (case hr => first | (go_simp; done) | (go_simp; rfl)); intro gb294 hg w90 hbox hb; have n0_ := Aside0.mk (zam (by repeat (first | (with_reducible first | exact HB.out | apply zac | apply zaa | apply zaf) | exact HB.out)) hb); have n1_ := Aside0.mk (hbox); have n2_ := Aside0.mk ((by rw [hg]; exact (zao (by repeat (first | (with_reducible first | exact HB.out | apply zac | apply zaa | apply zaf) | exact HB.out))) : w.heap.size ≤ gb294)); have n3_ := n2_; clear HB; have HB := n0_; have BK294 := n1_; have GW294 := n2_; have GE294 := n3_; clear n0_ n1_ n2_ n3_; clear hb hbox hg) | ((with_reducible refine zaK (N := 4) rfl ?_); (try (refine zbn (by rfl) ?_; dsimp only)); refine zaI ?hg (N := 4) ?hd (cs := #[.int .i64 0, .int .i64 0]) (t := 24) ?hr ?_; (case hd => rfl); (case hg => rfl); (case hr => first | (go_simp; done) | (go_simp; rfl)); intro gb295 hg w91 hbox hb; have n0_ := Aside0.mk (zaj (g := gb294) (o := .cells #[.slice A0_0 l0_0.length c0_0, .int .i64 a0_1, .int .i64 a0_2] 26 (0, 0)) (by (with_reducible repeat (first | apply zae | apply zai | apply zad)); exact BK294.out) hb); have n1_ := Aside0.mk (zam (by repeat (first | (with_reducible first | exact HB.out | apply zac | apply zaa | apply zaf | refine zab ?_ GE294.out) | exact HB.out)) hb); have n2_ := Aside0.mk (hbox); have n3_ := Aside0.mk ((by rw [hg]; exact (zao (by repeat (first | (with_reducible first | exact HB.out | apply zac | apply zaa | apply zaf | refine zab ?_ GE294.out) | exact HB.out))) : w.heap.size ≤ gb295)); have n4_ := n3_; have n5_ := Aside0.mk ((by rw [hg]; exact Nat.ne_of_lt (za3 (g := gb294) (o := .cells #[.slice A0_0 l0_0.length c0_0, .int .i64 a0_1, .int .i64 a0_2] 26 (0, 0)) (by (with_reducible repeat (first | apply zae | apply zai | apply zad)); exact BK294.out)) : gb294 ≠ gb295)); have n6_ := Aside0.mk n5_.out.symm; clear BK294; clear HB; have BK294 := n0_; have HB := n1_; have BK295 := n2_; have GW295 := n3_; have GE295 := n4_; have NB294_295 := n5_; have NB295_294 := n6_; clear n0_ n1_ n2_ n3_ n4_ n5_ n6_; clear hb hbox hg; have hnb92 := NB294_295.out; have hnc92 := NB295_294.out; have hcz93_0 : w91.cell? ⟨gb294, 0, none⟩ = some (.slice A0_0 l0_0.length c0_0) := (zak BK294.out 0).trans rfl; have hcz93_1 : w91.cell? ⟨gb294, 1, none⟩ = some (.int .i64 a0_1) := (zak BK294.out 1).trans rfl; have hcz93_2 : w91.cell? ⟨gb294, 2, none⟩ = some (.int .i64 a0_2) := (zak BK294.out 2).trans rfl; have hfz93_0 := zah BK294.out 0; have hfz93_1 := zah BK294.out 1; have hfz93_2 := zah BK294.out 2) | ((with_reducible refine zat (f := 11) rfl ?_); refine za9 (some 12) rfl rfl Tryd.func11 (by kernel_rfl) rfl #[.agg #[.slice A0_0 l0_0.length c0_0, .int .i64 a0_1, .int .i64 a0_2]] rfl (by (try simp only [List.map_toArray, List.map_cons, List.map_nil]); first | done | rfl | (simp only [List.length_drop, List.length_take]; rfl)) ?_; (with_reducible refine (zaX.calls k _ _ l0_0 a0_1 a0_2 false _ ?side1 ?side2 A3.out).mono ?_); (case side1 => repeat (first | exact (Kd.zbd HR0_0.out HB.out) | (with_reducible refine Kd.zbe ?_ _) | (with_reducible refine Kd.zbc ?_ _) | (with_reducible refine Kd.zbt ?_))); (case side2 => exact HC0_0.out); rintro e w94 ⟨rfl, hb⟩; refine ⟨_, rfl, ?_⟩; have n0_ := Aside0.mk (zaj (g := gb294) (o := .cells #[.slice A0_0 l0_0.length c0_0, .int .i64 a0_1, .int .i64 a0_2] 26 (0, 0)) (by (with_reducible repeat (first | apply zae | apply zai | apply zad)); exact BK294.out) hb); have n1_ := Aside0.mk (zaj (g := gb295) (o := .cells #[.int .i64 0, .int .i64 0] 24 (0, 0)) (by (with_reducible repeat (first | apply zae | apply zai | apply zad)); exact BK295.out) hb); have n2_ := Aside0.mk (zam (by repeat (first | (with_reducible first | exact HB.out | apply zac | apply zaa | apply zaf | refine zab ?_ GE294.out | refine zab ?_ GE295.out) | exact HB.out)) hb); clear BK294; clear BK295; clear HB; have BK294 := n0_; have BK295 := n1_; have HB := n2_; clear n0_ n1_ n2_; (try clear hb); (try clear hb2); (try clear hk); (try clear hi); have hcz95_0 : w94.cell? ⟨gb295, 0, none⟩ = some (.int .i64 0) := (zak BK295.out 0).trans rfl; have hcz95_1 : w94.cell? ⟨gb295, 1, none⟩ = some (.int .i64 0) := (zak BK295.out 1).trans rfl; have hfz95_0 := zah BK295.out 0; have hfz95_1 := zah BK295.out 1))
  refine bodyPost_ret (za7 rfl _ _ gb295 24 #[.int .i64 0, .int .i64 0] (0, 0) _ rfl (by (with_reducible repeat (first | apply zae | apply zai | apply zad)); refine zay (cs := #[.int .i64 0, .int .i64 0]) ?_ 1 _ rfl; (with_reducible repeat (first | apply zae | apply zai | apply zad)); refine zay (cs := #[.int .i64 0, .int .i64 0]) ?_ 0 _ rfl; (with_reducible repeat (first | apply zae | apply zai | apply zad)); exact BK295.out) Tryd.underlying24 rfl (by kernel_rfl)) rfl ?_
  exact ⟨by first | rfl | (simp [zas, zar] <;> rfl) | (simp [*, zas, zar] <;> rfl), by repeat (first | (with_reducible first | exact HB.out | apply zac | apply zaa | apply zaf | refine zab ?_ GE294.out | refine zab ?_ GE295.out) | exact HB.out)⟩
end Go.Proofs.YtijhnmbegceonaaDoor.PTerm
