-- Words and walks, cut to what this law uses (wip/pack.py).
import Derived.Test.YtijhnmbegceonaaDoorValX14
import Derived.Test.YtijhnmbegceonaaDoorValX15
import Derived.Test.YtijhnmbegceonaaDoorValX16
namespace Go.Proofs.YtijhnmbegceonaaDoor.PTerm
open Go.RowKit Go.Proofs.YtijhnmbegceonaaDoorW.PrintWords Go.Proofs.YtijhnmbegceonaaDoorW.PrintLast Go.Proofs.YtijhnmbegceonaaDoorW.PrintMore
attribute [local go_sem] zbr zbp zbz zby zbh zbg zbq zbo
set_option linter.unusedVariables false
set_option linter.unusedSimpArgs false
attribute [local go_sem high] eqA24
mutual
def zal.j0 : Nat → List (S24) → Bool → List (S24) → Int → Int → List (S24) → Int → Int → Option (Bool)
 | 0, _, _, _, _, _, _, _, _ => none
 | k + 1, x2, x35, x310000, x310001, x310002, x311000, x311001, x311002 => if x35 = true then ((za1.f k).bind fun t314 => (some t314)) else ((zaM.f k x310000 x310001 x310002 x2).bind fun bt315 => ((zan.f k x310000 x310001 x310002 x2).bind fun bt319 => (if (!(bt315.1 == bt319.1) || (!(bt315.2.1 == bt319.2.1))) = true then (zal.j1 k x2 bt315.2.2 true x310000 x310001 x310002 x311000 x311001 x311002 bt315.1 bt315.2.1) else (zal.j1 k x2 bt315.2.2 (bt315.2.2 != bt319.2.2) x310000 x310001 x310002 x311000 x311001 x311002 bt315.1 bt315.2.1))))
def zal.j1 : Nat → List (S24) → Int → Bool → List (S24) → Int → Int → List (S24) → Int → Int → Int → Int → Option (Bool)
 | 0, _, _, _, _, _, _, _, _, _, _, _ => none
 | k + 1, x2, x8, x56, x310000, x310001, x310002, x311000, x311001, x311002, x319000, x319001 => if x56 = true then (some false) else ((zaM.f k x311000 x311001 x311002 x2).bind fun bt323 => ((zb3.f x310000 x310001 x310002 x311000 x311001 x311002).bind fun bt327 => ((zaM.f k bt327.1 bt327.2.1 bt327.2.2.1 x2).bind fun bt334 => ((za2.f 0 x319000 x319001 bt323.1 bt323.2.1).bind fun bt338 => (if x8 = 0 then (if bt323.2.2 = 0 then (if bt327.2.2.2 = 0 then (if bt334.2.2 = 0 then (if bt338.2.2 = 0 then (zal.j2 k (bt334.1 == bt338.1 && (bt334.2.1 == bt338.2.1))) else (zal.j2 k true)) else (zal.j2 k true)) else (zal.j2 k true)) else (zal.j2 k true)) else (zal.j2 k true))))))
def zal.j2 : Nat → Bool → Option (Bool)
 | 0, _ => none
 | k + 1, x6 => some x6
end
def zal.f (k : Nat) (l0_0 : List (S24)) (a0_1 : Int) (a0_2 : Int) (l1_0 : List (S24)) (a1_1 : Int) (a1_2 : Int) (l2 : List (S24)) : Option (Bool) := (za1.f k).bind fun t311 => (if t311 = true then ((za0.f l0_0 a0_1 a0_2).bind fun t312 => (if t312 = true then ((za0.f l1_0 a1_1 a1_2).bind fun t313 => (if t313 = true then (zal.j0 k l2 (decide ((l2.length : Int) > 12)) l0_0 a0_1 a0_2 l1_0 a1_1 a1_2) else (zal.j0 k l2 true l0_0 a0_1 a0_2 l1_0 a1_1 a1_2))) else (zal.j0 k l2 true l0_0 a0_1 a0_2 l1_0 a1_1 a1_2))) else (zal.j0 k l2 true l0_0 a0_1 a0_2 l1_0 a1_1 a1_2))
set_option maxHeartbeats 8000000 in
set_option maxRecDepth 100000 in
theorem zal.calls (k : Nat) (A0_0 : Option Addr) (c0_0 : Nat) (l0_0 : List (S24)) (a0_1 : Int) (a0_2 : Int) (A1_0 : Option Addr) (c1_0 : Nat) (l1_0 : List (S24)) (a1_1 : Int) (a1_2 : Int) (A2 : Option Addr) (c2 : Nat) (l2 : List (S24)) (r : Bool) (w : World) (hr0_0 : Kd.C k24 w A0_0 l0_0.length l0_0) (hc0_0 : l0_0.length ≤ c0_0) (hr1_0 : Kd.C k24 w A1_0 l1_0.length l1_0) (hc1_0 : l1_0.length ≤ c1_0) (hr2 : Kd.C k24 w A2 l2.length l2) (hc2 : l2.length ≤ c2) (hr_ : r = true) (h : zal.f k l0_0 a0_1 a0_2 l1_0 a1_1 a1_2 l2 = some r) :
  Calls Tryd.prog 6 #[.agg #[.slice A0_0 l0_0.length c0_0, .int .i64 a0_1, .int .i64 a0_2], .agg #[.slice A1_0 l1_0.length c1_0, .int .i64 a1_1, .int .i64 a1_2], .slice A2 l2.length c2] w fun e w' => e = .returned (.bool r) ∧ Below w.heap.size w w' := by
 have hu26 := Tryd.underlying26
 have hu24 := Tryd.underlying24
 have HR0_0 := Aside0.mk hr0_0
 have HC0_0 := Aside0.mk hc0_0
 clear hr0_0 hc0_0
 have HR1_0 := Aside0.mk hr1_0
 have HC1_0 := Aside0.mk hc1_0
 clear hr1_0 hc1_0
 have HR2 := Aside0.mk hr2
 have HC2 := Aside0.mk hc2
 clear hr2 hc2
 have HB := Aside0.mk (Below.refl w.heap.size w)
 have H : ((za1.f k).bind fun t311 => (if t311 = true then ((za0.f l0_0 a0_1 a0_2).bind fun t312 => (if t312 = true then ((za0.f l1_0 a1_1 a1_2).bind fun t313 => (if t313 = true then (zal.j0 k l2 (decide ((l2.length : Int) > 12)) l0_0 a0_1 a0_2 l1_0 a1_1 a1_2) else (zal.j0 k l2 true l0_0 a0_1 a0_2 l1_0 a1_1 a1_2))) else (zal.j0 k l2 true l0_0 a0_1 a0_2 l1_0 a1_1 a1_2))) else (zal.j0 k l2 true l0_0 a0_1 a0_2 l1_0 a1_1 a1_2))) = some r := h
 clear h
 have HC4 := Aside0.mk H
 clear H
 go_enter Tryd.func6, Tryd.ntmps6
 go_upto_region 1 with (first | ((with_reducible refine zaK (N := 3) rfl ?_); (try (refine zbn (by rfl) ?_; dsimp only)); refine zaI ?hg (N := 3) ?hd (cs := #[.slice A0_0 l0_0.length c0_0, .int .i64 a0_1, .int .i64 a0_2]) (t := 26) ?hr ?_; (case hd => rfl); (case hg => rfl); (case hr => first | (go_simp; done) | (go_simp; rfl)); intro gb309 hg w5 hbox hb; have n0_ := Aside0.mk (zam (by repeat (first | (with_reducible first | exact HB.out | apply zac | apply zaa | apply zaf) | exact HB.out)) hb); have n1_ := Aside0.mk (hbox); have n2_ := Aside0.mk ((by rw [hg]; exact (zao (by repeat (first | (with_reducible first | exact HB.out | apply zac | apply zaa | apply zaf) | exact HB.out))) : w.heap.size ≤ gb309)); have n3_ := n2_; clear HB; have HB := n0_; have BK309 := n1_; have GW309 := n2_; have GE309 := n3_; clear n0_ n1_ n2_ n3_; clear hb hbox hg) | ((with_reducible refine zaK (N := 4) rfl ?_); (try (refine zbn (by rfl) ?_; dsimp only)); refine zaI ?hg (N := 4) ?hd (cs := #[.slice A1_0 l1_0.length c1_0, .int .i64 a1_1, .int .i64 a1_2]) (t := 26) ?hr ?_; (case hd => rfl); (case hg => rfl); (case hr => first | (go_simp; done) | (go_simp; rfl)); intro gb310 hg w6 hbox hb; have n0_ := Aside0.mk (zaj (g := gb309) (o := .cells #[.slice A0_0 l0_0.length c0_0, .int .i64 a0_1, .int .i64 a0_2] 26 (0, 0)) (by (with_reducible repeat (first | apply zae | apply zai | apply zad)); exact BK309.out) hb); have n1_ := Aside0.mk (zam (by repeat (first | (with_reducible first | exact HB.out | apply zac | apply zaa | apply zaf | refine zab ?_ GE309.out) | exact HB.out)) hb); have n2_ := Aside0.mk (hbox); have n3_ := Aside0.mk ((by rw [hg]; exact (zao (by repeat (first | (with_reducible first | exact HB.out | apply zac | apply zaa | apply zaf | refine zab ?_ GE309.out) | exact HB.out))) : w.heap.size ≤ gb310)); have n4_ := n3_; have n5_ := Aside0.mk ((by rw [hg]; exact Nat.ne_of_lt (za3 (g := gb309) (o := .cells #[.slice A0_0 l0_0.length c0_0, .int .i64 a0_1, .int .i64 a0_2] 26 (0, 0)) (by (with_reducible repeat (first | apply zae | apply zai | apply zad)); exact BK309.out)) : gb309 ≠ gb310)); have n6_ := Aside0.mk n5_.out.symm; clear BK309; clear HB; have BK309 := n0_; have HB := n1_; have BK310 := n2_; have GW310 := n3_; have GE310 := n4_; have NB309_310 := n5_; have NB310_309 := n6_; clear n0_ n1_ n2_ n3_ n4_ n5_ n6_; clear hb hbox hg))
 (try simp only [Act.put, List.setIfInBounds_toArray, List.set_cons_zero, List.set_cons_succ])
 go_cut [35] (fun v35 wc => ∃ (kq : Nat) (x35_3 : Bool), v35 = .bool x35_3 ∧ Aside0 (zal.j0 kq l2 x35_3 l0_0 a0_1 a0_2 l1_0 a1_1 a1_2 = some r) ∧ Aside0 (kq ≤ k) ∧ Aside0 (wc.heap[gb309]? = some (.cells #[(.slice A0_0 l0_0.length c0_0), .int .i64 a0_1, .int .i64 a0_2] 26 (0, 0))) ∧ Aside0 (wc.heap[gb310]? = some (.cells #[(.slice A1_0 l1_0.length c1_0), .int .i64 a1_1, .int .i64 a1_2] 26 (0, 0))) ∧ Aside0 (Below w.heap.size w wc))
 case first =>
  have H := HC4.out
  clear HC4
  replace H := Option.bind_eq_some_iff.mp H
  obtain ⟨t311, A70, H⟩ := H
  replace H : (if t311 = true then ((za0.f l0_0 a0_1 a0_2).bind fun t312 => (if t312 = true then ((za0.f l1_0 a1_1 a1_2).bind fun t313 => (if t313 = true then (zal.j0 k l2 (decide ((l2.length : Int) > 12)) l0_0 a0_1 a0_2 l1_0 a1_1 a1_2) else (zal.j0 k l2 true l0_0 a0_1 a0_2 l1_0 a1_1 a1_2))) else (zal.j0 k l2 true l0_0 a0_1 a0_2 l1_0 a1_1 a1_2))) else (zal.j0 k l2 true l0_0 a0_1 a0_2 l1_0 a1_1 a1_2)) = some r := H
  have A7 := Aside0.mk A70
  clear A70
  by_cases c8 : t311 = true
  ·subst c8
   have H1 : ((za0.f l0_0 a0_1 a0_2).bind fun t312 => (if t312 = true then ((za0.f l1_0 a1_1 a1_2).bind fun t313 => (if t313 = true then (zal.j0 k l2 (decide ((l2.length : Int) > 12)) l0_0 a0_1 a0_2 l1_0 a1_1 a1_2) else (zal.j0 k l2 true l0_0 a0_1 a0_2 l1_0 a1_1 a1_2))) else (zal.j0 k l2 true l0_0 a0_1 a0_2 l1_0 a1_1 a1_2))) = some r := by rw [if_pos rfl] at H; exact H
   clear H
   have H := H1
   clear H1
   replace H := Option.bind_eq_some_iff.mp H
   obtain ⟨t312, A90, H⟩ := H
   replace H : (if t312 = true then ((za0.f l1_0 a1_1 a1_2).bind fun t313 => (if t313 = true then (zal.j0 k l2 (decide ((l2.length : Int) > 12)) l0_0 a0_1 a0_2 l1_0 a1_1 a1_2) else (zal.j0 k l2 true l0_0 a0_1 a0_2 l1_0 a1_1 a1_2))) else (zal.j0 k l2 true l0_0 a0_1 a0_2 l1_0 a1_1 a1_2)) = some r := H
   have A9 := Aside0.mk A90
   clear A90
   by_cases c10 : t312 = true
   ·subst c10
    have H1 : ((za0.f l1_0 a1_1 a1_2).bind fun t313 => (if t313 = true then (zal.j0 k l2 (decide ((l2.length : Int) > 12)) l0_0 a0_1 a0_2 l1_0 a1_1 a1_2) else (zal.j0 k l2 true l0_0 a0_1 a0_2 l1_0 a1_1 a1_2))) = some r := by rw [if_pos rfl] at H; exact H
    clear H
    have H := H1
    clear H1
    replace H := Option.bind_eq_some_iff.mp H
    obtain ⟨t313, A110, H⟩ := H
    replace H : (if t313 = true then (zal.j0 k l2 (decide ((l2.length : Int) > 12)) l0_0 a0_1 a0_2 l1_0 a1_1 a1_2) else (zal.j0 k l2 true l0_0 a0_1 a0_2 l1_0 a1_1 a1_2)) = some r := H
    have A11 := Aside0.mk A110
    clear A110
    by_cases c12 : t313 = true
    ·subst c12
     have H1 : (zal.j0 k l2 (decide ((l2.length : Int) > 12)) l0_0 a0_1 a0_2 l1_0 a1_1 a1_2) = some r := by rw [if_pos rfl] at H; exact H
     clear H
     have H := H1
     clear H1
     have H' := Aside0.mk H
     clear H
     go_wp2_with (first | ((with_reducible refine zat (f := 9) rfl ?_); refine za9 (some 19) rfl rfl Tryd.func9 (by kernel_rfl) rfl #[] rfl (by (try simp only [List.map_toArray, List.map_cons, List.map_nil]); first | done | rfl | (simp only [List.length_drop, List.length_take]; rfl)) ?_; (with_reducible refine (za1.calls k  true _ A7.out).mono ?_); rintro e w13 ⟨rfl, hb⟩; refine ⟨_, rfl, ?_⟩; have n0_ := Aside0.mk (zaj (g := gb309) (o := .cells #[.slice A0_0 l0_0.length c0_0, .int .i64 a0_1, .int .i64 a0_2] 26 (0, 0)) (by (with_reducible repeat (first | apply zae | apply zai | apply zad)); exact BK309.out) hb); have n1_ := Aside0.mk (zaj (g := gb310) (o := .cells #[.slice A1_0 l1_0.length c1_0, .int .i64 a1_1, .int .i64 a1_2] 26 (0, 0)) (by (with_reducible repeat (first | apply zae | apply zai | apply zad)); exact BK310.out) hb); have n2_ := Aside0.mk (zam (by repeat (first | (with_reducible first | exact HB.out | apply zac | apply zaa | apply zaf | refine zab ?_ GE309.out | refine zab ?_ GE310.out) | exact HB.out)) hb); clear BK309; clear BK310; clear HB; have BK309 := n0_; have BK310 := n1_; have HB := n2_; clear n0_ n1_ n2_; (try clear hb); (try clear hb2); (try clear hk); (try clear hi); have hnb14 := NB309_310.out; have hnc14 := NB310_309.out; have hcz15_0 : w13.cell? ⟨gb309, 0, none⟩ = some (.slice A0_0 l0_0.length c0_0) := (zak BK309.out 0).trans rfl; have hcz15_1 : w13.cell? ⟨gb309, 1, none⟩ = some (.int .i64 a0_1) := (zak BK309.out 1).trans rfl; have hcz15_2 : w13.cell? ⟨gb309, 2, none⟩ = some (.int .i64 a0_2) := (zak BK309.out 2).trans rfl; have hfz15_0 := zah BK309.out 0; have hfz15_1 := zah BK309.out 1; have hfz15_2 := zah BK309.out 2) | (go_at_call 10; (with_reducible refine (za0.calls _ _ l0_0 a0_1 a0_2 true _ ?side1 ?side2 A9.out).mono ?_); (case side1 => repeat (first | exact (Kd.zbd HR0_0.out HB.out) | (with_reducible refine Kd.zbe ?_ _) | (with_reducible refine Kd.zbc ?_ _) | (with_reducible refine Kd.zbt ?_))); (case side2 => exact HC0_0.out); rintro e w16 ⟨rfl, hb⟩; have n0_ := Aside0.mk (zaj (g := gb309) (o := .cells #[.slice A0_0 l0_0.length c0_0, .int .i64 a0_1, .int .i64 a0_2] 26 (0, 0)) (by (with_reducible repeat (first | apply zae | apply zai | apply zad)); exact BK309.out) hb); have n1_ := Aside0.mk (zaj (g := gb310) (o := .cells #[.slice A1_0 l1_0.length c1_0, .int .i64 a1_1, .int .i64 a1_2] 26 (0, 0)) (by (with_reducible repeat (first | apply zae | apply zai | apply zad)); exact BK310.out) hb); have n2_ := Aside0.mk (zam (by repeat (first | (with_reducible first | exact HB.out | apply zac | apply zaa | apply zaf | refine zab ?_ GE309.out | refine zab ?_ GE310.out) | exact HB.out)) hb); clear BK309; clear BK310; clear HB; have BK309 := n0_; have BK310 := n1_; have HB := n2_; clear n0_ n1_ n2_; (try clear hb); (try clear hb2); (try clear hk); (try clear hi); have hcz17_0 : w16.cell? ⟨gb310, 0, none⟩ = some (.slice A1_0 l1_0.length c1_0) := (zak BK310.out 0).trans rfl; have hcz17_1 : w16.cell? ⟨gb310, 1, none⟩ = some (.int .i64 a1_1) := (zak BK310.out 1).trans rfl; have hcz17_2 : w16.cell? ⟨gb310, 2, none⟩ = some (.int .i64 a1_2) := (zak BK310.out 2).trans rfl; have hfz17_0 := zah BK310.out 0; have hfz17_1 := zah BK310.out 1; have hfz17_2 := zah BK310.out 2) | (go_at_call 10; (with_reducible refine (za0.calls _ _ l1_0 a1_1 a1_2 true _ ?side1 ?side2 A11.out).mono ?_); (case side1 => repeat (first | exact (Kd.zbd HR1_0.out HB.out) | (with_reducible refine Kd.zbe ?_ _) | (with_reducible refine Kd.zbc ?_ _) | (with_reducible refine Kd.zbt ?_))); (case side2 => exact HC1_0.out); rintro e w18 ⟨rfl, hb⟩; have n0_ := Aside0.mk (zaj (g := gb309) (o := .cells #[.slice A0_0 l0_0.length c0_0, .int .i64 a0_1, .int .i64 a0_2] 26 (0, 0)) (by (with_reducible repeat (first | apply zae | apply zai | apply zad)); exact BK309.out) hb); have n1_ := Aside0.mk (zaj (g := gb310) (o := .cells #[.slice A1_0 l1_0.length c1_0, .int .i64 a1_1, .int .i64 a1_2] 26 (0, 0)) (by (with_reducible repeat (first | apply zae | apply zai | apply zad)); exact BK310.out) hb); have n2_ := Aside0.mk (zam (by repeat (first | (with_reducible first | exact HB.out | apply zac | apply zaa | apply zaf | refine zab ?_ GE309.out | refine zab ?_ GE310.out) | exact HB.out)) hb); clear BK309; clear BK310; clear HB; have BK309 := n0_; have BK310 := n1_; have HB := n2_; clear n0_ n1_ n2_; (try clear hb); (try clear hb2); (try clear hk); (try clear hi)))
     go_meet
     case rel => exact ⟨_, (decide ((l2.length : Int) > 12)), (by first | rfl | (simp; done) | (simp [*]; done)), H', ⟨by first | omega | exact Nat.le_refl _⟩, ⟨by (with_reducible repeat (first | apply zae | apply zai | apply zad)); exact BK309.out⟩, ⟨by (with_reducible repeat (first | apply zae | apply zai | apply zad)); exact BK310.out⟩, ⟨by repeat (first | (with_reducible first | exact HB.out | apply zac | apply zaa | apply zaf | refine zab ?_ GE309.out | refine zab ?_ GE310.out) | exact HB.out)⟩⟩
    ·replace c12 := Bool.eq_false_iff.mpr c12
     subst c12
     have H1 : (zal.j0 k l2 true l0_0 a0_1 a0_2 l1_0 a1_1 a1_2) = some r := by rw [if_neg (show ¬ (false = true) by decide)] at H; exact H
     clear H
     have H := H1
     clear H1
     have H' := Aside0.mk H
     clear H
     go_wp2_with (first | ((with_reducible refine zat (f := 9) rfl ?_); refine za9 (some 19) rfl rfl Tryd.func9 (by kernel_rfl) rfl #[] rfl (by (try simp only [List.map_toArray, List.map_cons, List.map_nil]); first | done | rfl | (simp only [List.length_drop, List.length_take]; rfl)) ?_; (with_reducible refine (za1.calls k  true _ A7.out).mono ?_); rintro e w19 ⟨rfl, hb⟩; refine ⟨_, rfl, ?_⟩; have n0_ := Aside0.mk (zaj (g := gb309) (o := .cells #[.slice A0_0 l0_0.length c0_0, .int .i64 a0_1, .int .i64 a0_2] 26 (0, 0)) (by (with_reducible repeat (first | apply zae | apply zai | apply zad)); exact BK309.out) hb); have n1_ := Aside0.mk (zaj (g := gb310) (o := .cells #[.slice A1_0 l1_0.length c1_0, .int .i64 a1_1, .int .i64 a1_2] 26 (0, 0)) (by (with_reducible repeat (first | apply zae | apply zai | apply zad)); exact BK310.out) hb); have n2_ := Aside0.mk (zam (by repeat (first | (with_reducible first | exact HB.out | apply zac | apply zaa | apply zaf | refine zab ?_ GE309.out | refine zab ?_ GE310.out) | exact HB.out)) hb); clear BK309; clear BK310; clear HB; have BK309 := n0_; have BK310 := n1_; have HB := n2_; clear n0_ n1_ n2_; (try clear hb); (try clear hb2); (try clear hk); (try clear hi); have hnb20 := NB309_310.out; have hnc20 := NB310_309.out; have hcz21_0 : w19.cell? ⟨gb309, 0, none⟩ = some (.slice A0_0 l0_0.length c0_0) := (zak BK309.out 0).trans rfl; have hcz21_1 : w19.cell? ⟨gb309, 1, none⟩ = some (.int .i64 a0_1) := (zak BK309.out 1).trans rfl; have hcz21_2 : w19.cell? ⟨gb309, 2, none⟩ = some (.int .i64 a0_2) := (zak BK309.out 2).trans rfl; have hfz21_0 := zah BK309.out 0; have hfz21_1 := zah BK309.out 1; have hfz21_2 := zah BK309.out 2) | (go_at_call 10; (with_reducible refine (za0.calls _ _ l0_0 a0_1 a0_2 true _ ?side1 ?side2 A9.out).mono ?_); (case side1 => repeat (first | exact (Kd.zbd HR0_0.out HB.out) | (with_reducible refine Kd.zbe ?_ _) | (with_reducible refine Kd.zbc ?_ _) | (with_reducible refine Kd.zbt ?_))); (case side2 => exact HC0_0.out); rintro e w22 ⟨rfl, hb⟩; have n0_ := Aside0.mk (zaj (g := gb309) (o := .cells #[.slice A0_0 l0_0.length c0_0, .int .i64 a0_1, .int .i64 a0_2] 26 (0, 0)) (by (with_reducible repeat (first | apply zae | apply zai | apply zad)); exact BK309.out) hb); have n1_ := Aside0.mk (zaj (g := gb310) (o := .cells #[.slice A1_0 l1_0.length c1_0, .int .i64 a1_1, .int .i64 a1_2] 26 (0, 0)) (by (with_reducible repeat (first | apply zae | apply zai | apply zad)); exact BK310.out) hb); have n2_ := Aside0.mk (zam (by repeat (first | (with_reducible first | exact HB.out | apply zac | apply zaa | apply zaf | refine zab ?_ GE309.out | refine zab ?_ GE310.out) | exact HB.out)) hb); clear BK309; clear BK310; clear HB; have BK309 := n0_; have BK310 := n1_; have HB := n2_; clear n0_ n1_ n2_; (try clear hb); (try clear hb2); (try clear hk); (try clear hi); have hcz23_0 : w22.cell? ⟨gb310, 0, none⟩ = some (.slice A1_0 l1_0.length c1_0) := (zak BK310.out 0).trans rfl; have hcz23_1 : w22.cell? ⟨gb310, 1, none⟩ = some (.int .i64 a1_1) := (zak BK310.out 1).trans rfl; have hcz23_2 : w22.cell? ⟨gb310, 2, none⟩ = some (.int .i64 a1_2) := (zak BK310.out 2).trans rfl; have hfz23_0 := zah BK310.out 0; have hfz23_1 := zah BK310.out 1; have hfz23_2 := zah BK310.out 2) | (go_at_call 10; (with_reducible refine (za0.calls _ _ l1_0 a1_1 a1_2 false _ ?side1 ?side2 A11.out).mono ?_); (case side1 => repeat (first | exact (Kd.zbd HR1_0.out HB.out) | (with_reducible refine Kd.zbe ?_ _) | (with_reducible refine Kd.zbc ?_ _) | (with_reducible refine Kd.zbt ?_))); (case side2 => exact HC1_0.out); rintro e w24 ⟨rfl, hb⟩; have n0_ := Aside0.mk (zaj (g := gb309) (o := .cells #[.slice A0_0 l0_0.length c0_0, .int .i64 a0_1, .int .i64 a0_2] 26 (0, 0)) (by (with_reducible repeat (first | apply zae | apply zai | apply zad)); exact BK309.out) hb); have n1_ := Aside0.mk (zaj (g := gb310) (o := .cells #[.slice A1_0 l1_0.length c1_0, .int .i64 a1_1, .int .i64 a1_2] 26 (0, 0)) (by (with_reducible repeat (first | apply zae | apply zai | apply zad)); exact BK310.out) hb); have n2_ := Aside0.mk (zam (by repeat (first | (with_reducible first | exact HB.out | apply zac | apply zaa | apply zaf | refine zab ?_ GE309.out | refine zab ?_ GE310.out) | exact HB.out)) hb); clear BK309; clear BK310; clear HB; have BK309 := n0_; have BK310 := n1_; have HB := n2_; clear n0_ n1_ n2_; (try clear hb); (try clear hb2); (try clear hk); (try clear hi)))
     go_meet
     case rel => exact ⟨_, (true), (by first | rfl | (simp; done) | (simp [*]; done)), H', ⟨by first | omega | exact Nat.le_refl _⟩, ⟨by (with_reducible repeat (first | apply zae | apply zai | apply zad)); exact BK309.out⟩, ⟨by (with_reducible repeat (first | apply zae | apply zai | apply zad)); exact BK310.out⟩, ⟨by repeat (first | (with_reducible first | exact HB.out | apply zac | apply zaa | apply zaf | refine zab ?_ GE309.out | refine zab ?_ GE310.out) | exact HB.out)⟩⟩
   ·replace c10 := Bool.eq_false_iff.mpr c10
    subst c10
    have H1 : (zal.j0 k l2 true l0_0 a0_1 a0_2 l1_0 a1_1 a1_2) = some r := by rw [if_neg (show ¬ (false = true) by decide)] at H; exact H
    clear H
    have H := H1
    clear H1
    have H' := Aside0.mk H
    clear H
    go_wp2_with (first | ((with_reducible refine zat (f := 9) rfl ?_); refine za9 (some 19) rfl rfl Tryd.func9 (by kernel_rfl) rfl #[] rfl (by (try simp only [List.map_toArray, List.map_cons, List.map_nil]); first | done | rfl | (simp only [List.length_drop, List.length_take]; rfl)) ?_; (with_reducible refine (za1.calls k  true _ A7.out).mono ?_); rintro e w25 ⟨rfl, hb⟩; refine ⟨_, rfl, ?_⟩; have n0_ := Aside0.mk (zaj (g := gb309) (o := .cells #[.slice A0_0 l0_0.length c0_0, .int .i64 a0_1, .int .i64 a0_2] 26 (0, 0)) (by (with_reducible repeat (first | apply zae | apply zai | apply zad)); exact BK309.out) hb); have n1_ := Aside0.mk (zaj (g := gb310) (o := .cells #[.slice A1_0 l1_0.length c1_0, .int .i64 a1_1, .int .i64 a1_2] 26 (0, 0)) (by (with_reducible repeat (first | apply zae | apply zai | apply zad)); exact BK310.out) hb); have n2_ := Aside0.mk (zam (by repeat (first | (with_reducible first | exact HB.out | apply zac | apply zaa | apply zaf | refine zab ?_ GE309.out | refine zab ?_ GE310.out) | exact HB.out)) hb); clear BK309; clear BK310; clear HB; have BK309 := n0_; have BK310 := n1_; have HB := n2_; clear n0_ n1_ n2_; (try clear hb); (try clear hb2); (try clear hk); (try clear hi); have hnb26 := NB309_310.out; have hnc26 := NB310_309.out; have hcz27_0 : w25.cell? ⟨gb309, 0, none⟩ = some (.slice A0_0 l0_0.length c0_0) := (zak BK309.out 0).trans rfl; have hcz27_1 : w25.cell? ⟨gb309, 1, none⟩ = some (.int .i64 a0_1) := (zak BK309.out 1).trans rfl; have hcz27_2 : w25.cell? ⟨gb309, 2, none⟩ = some (.int .i64 a0_2) := (zak BK309.out 2).trans rfl; have hfz27_0 := zah BK309.out 0; have hfz27_1 := zah BK309.out 1; have hfz27_2 := zah BK309.out 2) | (go_at_call 10; (with_reducible refine (za0.calls _ _ l0_0 a0_1 a0_2 false _ ?side1 ?side2 A9.out).mono ?_); (case side1 => repeat (first | exact (Kd.zbd HR0_0.out HB.out) | (with_reducible refine Kd.zbe ?_ _) | (with_reducible refine Kd.zbc ?_ _) | (with_reducible refine Kd.zbt ?_))); (case side2 => exact HC0_0.out); rintro e w28 ⟨rfl, hb⟩; have n0_ := Aside0.mk (zaj (g := gb309) (o := .cells #[.slice A0_0 l0_0.length c0_0, .int .i64 a0_1, .int .i64 a0_2] 26 (0, 0)) (by (with_reducible repeat (first | apply zae | apply zai | apply zad)); exact BK309.out) hb); have n1_ := Aside0.mk (zaj (g := gb310) (o := .cells #[.slice A1_0 l1_0.length c1_0, .int .i64 a1_1, .int .i64 a1_2] 26 (0, 0)) (by (with_reducible repeat (first | apply zae | apply zai | apply zad)); exact BK310.out) hb); have n2_ := Aside0.mk (zam (by repeat (first | (with_reducible first | exact HB.out | apply zac | apply zaa | apply zaf | refine zab ?_ GE309.out | refine zab ?_ GE310.out) | exact HB.out)) hb); clear BK309; clear BK310; clear HB; have BK309 := n0_; have BK310 := n1_; have HB := n2_; clear n0_ n1_ n2_; (try clear hb); (try clear hb2); (try clear hk); (try clear hi)))
    go_meet
    case rel => exact ⟨_, (true), (by first | rfl | (simp; done) | (simp [*]; done)), H', ⟨by first | omega | exact Nat.le_refl _⟩, ⟨by (with_reducible repeat (first | apply zae | apply zai | apply zad)); exact BK309.out⟩, ⟨by (with_reducible repeat (first | apply zae | apply zai | apply zad)); exact BK310.out⟩, ⟨by repeat (first | (with_reducible first | exact HB.out | apply zac | apply zaa | apply zaf | refine zab ?_ GE309.out | refine zab ?_ GE310.out) | exact HB.out)⟩⟩
  ·replace c8 := Bool.eq_false_iff.mpr c8
   subst c8
   have H1 : (zal.j0 k l2 true l0_0 a0_1 a0_2 l1_0 a1_1 a1_2) = some r := by rw [if_neg (show ¬ (false = true) by decide)] at H; exact H
   clear H
   have H := H1
   clear H1
   have H' := Aside0.mk H
   clear H
   go_wp2_with (first | ((with_reducible refine zat (f := 9) rfl ?_); refine za9 (some 19) rfl rfl Tryd.func9 (by kernel_rfl) rfl #[] rfl (by (try simp only [List.map_toArray, List.map_cons, List.map_nil]); first | done | rfl | (simp only [List.length_drop, List.length_take]; rfl)) ?_; (with_reducible refine (za1.calls k  false _ A7.out).mono ?_); rintro e w29 ⟨rfl, hb⟩; refine ⟨_, rfl, ?_⟩; have n0_ := Aside0.mk (zaj (g := gb309) (o := .cells #[.slice A0_0 l0_0.length c0_0, .int .i64 a0_1, .int .i64 a0_2] 26 (0, 0)) (by (with_reducible repeat (first | apply zae | apply zai | apply zad)); exact BK309.out) hb); have n1_ := Aside0.mk (zaj (g := gb310) (o := .cells #[.slice A1_0 l1_0.length c1_0, .int .i64 a1_1, .int .i64 a1_2] 26 (0, 0)) (by (with_reducible repeat (first | apply zae | apply zai | apply zad)); exact BK310.out) hb); have n2_ := Aside0.mk (zam (by repeat (first | (with_reducible first | exact HB.out | apply zac | apply zaa | apply zaf | refine zab ?_ GE309.out | refine zab ?_ GE310.out) | exact HB.out)) hb); clear BK309; clear BK310; clear HB; have BK309 := n0_; have BK310 := n1_; have HB := n2_; clear n0_ n1_ n2_; (try clear hb); (try clear hb2); (try clear hk); (try clear hi)))
   go_meet
   case rel => exact ⟨_, (true), (by first | rfl | (simp; done) | (simp [*]; done)), H', ⟨by first | omega | exact Nat.le_refl _⟩, ⟨by (with_reducible repeat (first | apply zae | apply zai | apply zad)); exact BK309.out⟩, ⟨by (with_reducible repeat (first | apply zae | apply zai | apply zad)); exact BK310.out⟩, ⟨by repeat (first | (with_reducible first | exact HB.out | apply zac | apply zaa | apply zaf | refine zab ?_ GE309.out | refine zab ?_ GE310.out) | exact HB.out)⟩⟩
 case rest =>
  clear HC4
  (try clear c1); (try clear c2); (try clear p2); (try clear c6); (try clear c8); (try clear c9); (try clear c10); (try clear c12); (try clear c14); (try clear c20); (try clear c26); (try clear hcz15_0); (try clear hcz15_1); (try clear hcz15_2); (try clear hcz17_0); (try clear hcz17_1); (try clear hcz17_2); (try clear hcz21_0); (try clear hcz21_1); (try clear hcz21_2); (try clear hcz23_0); (try clear hcz23_1); (try clear hcz23_2); (try clear hcz27_0); (try clear hcz27_1); (try clear hcz27_2); (try clear hfz15_0); (try clear hfz15_1); (try clear hfz15_2); (try clear hfz17_0); (try clear hfz17_1); (try clear hfz17_2); (try clear hfz21_0); (try clear hfz21_1); (try clear hfz21_2); (try clear hfz23_0); (try clear hfz23_1); (try clear hfz23_2); (try clear hfz27_0); (try clear hfz27_1); (try clear hfz27_2)
  obtain ⟨kq, x35_3, rfl, HA, HJ3, BK309, BK310, HB⟩ := hcut
  cases kq with
  | zero => exact absurd HA.out (by simp [zal.j0])
  | succ kj3 =>
   have H := HA.out
   clear HA
   simp only [zal.j0] at H
   by_cases c30 : x35_3 = true
   ·subst c30
    have H1 : ((za1.f kj3).bind fun t314 => (some t314)) = some r := by rw [if_pos rfl] at H; exact H
    clear H
    have H := H1
    clear H1
    replace H := Option.bind_eq_some_iff.mp H
    obtain ⟨t314, A310, H⟩ := H
    replace H : (some t314) = some r := H
    have A31 := Aside0.mk A310
    clear A310
    obtain rfl := Option.some.inj H
    go_wp2_with (first | ((with_reducible refine zat (f := 9) rfl ?_); refine za9 (some 36) rfl rfl Tryd.func9 (by kernel_rfl) rfl #[] rfl (by (try simp only [List.map_toArray, List.map_cons, List.map_nil]); first | done | rfl | (simp only [List.length_drop, List.length_take]; rfl)) ?_; (with_reducible refine (za1.calls kj3  t314 _ A31.out).mono ?_); rintro e w32 ⟨rfl, hb⟩; refine ⟨_, rfl, ?_⟩; have n0_ := Aside0.mk (zaj (g := gb309) (o := .cells #[.slice A0_0 l0_0.length c0_0, .int .i64 a0_1, .int .i64 a0_2] 26 (0, 0)) (by (with_reducible repeat (first | apply zae | apply zai | apply zad)); exact BK309.out) hb); have n1_ := Aside0.mk (zaj (g := gb310) (o := .cells #[.slice A1_0 l1_0.length c1_0, .int .i64 a1_1, .int .i64 a1_2] 26 (0, 0)) (by (with_reducible repeat (first | apply zae | apply zai | apply zad)); exact BK310.out) hb); have n2_ := Aside0.mk (zam (by repeat (first | (with_reducible first | exact HB.out | apply zac | apply zaa | apply zaf | refine zab ?_ GE309.out | refine zab ?_ GE310.out) | exact HB.out)) hb); clear BK309; clear BK310; clear HB; have BK309 := n0_; have BK310 := n1_; have HB := n2_; clear n0_ n1_ n2_; (try clear hb); (try clear hb2); (try clear hk); (try clear hi)))
    go_ret
    exact ⟨by first | rfl | (simp [zas, zar] <;> rfl) | (simp [*, zas, zar] <;> rfl), by repeat (first | (with_reducible first | exact HB.out | apply zac | apply zaa | apply zaf | refine zab ?_ GE309.out | refine zab ?_ GE310.out) | exact HB.out)⟩
   ·replace c30 := Bool.eq_false_iff.mpr c30
    subst c30
    have H1 : ((zaM.f kj3 l0_0 a0_1 a0_2 l2).bind fun bt315 => ((zan.f kj3 l0_0 a0_1 a0_2 l2).bind fun bt319 => (if (!(bt315.1 == bt319.1) || (!(bt315.2.1 == bt319.2.1))) = true then (zal.j1 kj3 l2 bt315.2.2 true l0_0 a0_1 a0_2 l1_0 a1_1 a1_2 bt315.1 bt315.2.1) else (zal.j1 kj3 l2 bt315.2.2 (bt315.2.2 != bt319.2.2) l0_0 a0_1 a0_2 l1_0 a1_1 a1_2 bt315.1 bt315.2.1)))) = some r := by rw [if_neg (show ¬ (false = true) by decide)] at H; exact H
    clear H
    have H := H1
    clear H1
    replace H := Option.bind_eq_some_iff.mp H
    obtain ⟨⟨t315, t316, t317⟩, A330, H⟩ := H
    replace H : ((zan.f kj3 l0_0 a0_1 a0_2 l2).bind fun bt319 => (if (!(t315 == bt319.1) || (!(t316 == bt319.2.1))) = true then (zal.j1 kj3 l2 t317 true l0_0 a0_1 a0_2 l1_0 a1_1 a1_2 t315 t316) else (zal.j1 kj3 l2 t317 (t317 != bt319.2.2) l0_0 a0_1 a0_2 l1_0 a1_1 a1_2 t315 t316))) = some r := H
    have A33 := Aside0.mk A330
    clear A330
    replace H := Option.bind_eq_some_iff.mp H
    obtain ⟨⟨t319, t320, t321⟩, A340, H⟩ := H
    replace H : (if (!(t315 == t319) || (!(t316 == t320))) = true then (zal.j1 kj3 l2 t317 true l0_0 a0_1 a0_2 l1_0 a1_1 a1_2 t315 t316) else (zal.j1 kj3 l2 t317 (t317 != t321) l0_0 a0_1 a0_2 l1_0 a1_1 a1_2 t315 t316)) = some r := H
    have A34 := Aside0.mk A340
    clear A340
    have HC35 := Aside0.mk H
    clear H
    have hnb36 := NB309_310.out
    have hnc36 := NB310_309.out
    have hcz37_0 : wc.cell? ⟨gb309, 0, none⟩ = some (.slice A0_0 l0_0.length c0_0) := (zak BK309.out 0).trans rfl
    have hcz37_1 : wc.cell? ⟨gb309, 1, none⟩ = some (.int .i64 a0_1) := (zak BK309.out 1).trans rfl
    have hcz37_2 : wc.cell? ⟨gb309, 2, none⟩ = some (.int .i64 a0_2) := (zak BK309.out 2).trans rfl
    have hfz37_0 := zah BK309.out 0
    have hfz37_1 := zah BK309.out 1
    have hfz37_2 := zah BK309.out 2
    go_upto_region 5 with (first | ((with_reducible refine zat (f := 24) rfl ?_); refine za9 (some 40) rfl rfl Tryd.func24 (by kernel_rfl) rfl #[.agg #[.slice A0_0 l0_0.length c0_0, .int .i64 a0_1, .int .i64 a0_2], .slice A2 l2.length c2] rfl (by (try simp only [List.map_toArray, List.map_cons, List.map_nil]); first | done | rfl | (simp only [List.length_drop, List.length_take]; rfl)) ?_; (with_reducible refine (zaM.calls kj3 _ _ l0_0 a0_1 a0_2 _ _ l2 t315 t316 t317 _ ?side1 ?side2 ?side3 ?side4 A33.out).mono ?_); (case side1 => repeat (first | exact (Kd.zbd HR0_0.out HB.out) | (with_reducible refine Kd.zbe ?_ _) | (with_reducible refine Kd.zbc ?_ _) | (with_reducible refine Kd.zbt ?_))); (case side2 => exact HC0_0.out); (case side3 => repeat (first | exact (Kd.zbd HR2.out HB.out) | (with_reducible refine Kd.zbe ?_ _) | (with_reducible refine Kd.zbc ?_ _) | (with_reducible refine Kd.zbt ?_))); (case side4 => exact HC2.out); rintro e w38 ⟨rfl, hb⟩; refine ⟨_, rfl, ?_⟩; have n0_ := Aside0.mk (zaj (g := gb309) (o := .cells #[.slice A0_0 l0_0.length c0_0, .int .i64 a0_1, .int .i64 a0_2] 26 (0, 0)) (by (with_reducible repeat (first | apply zae | apply zai | apply zad)); exact BK309.out) hb); have n1_ := Aside0.mk (zaj (g := gb310) (o := .cells #[.slice A1_0 l1_0.length c1_0, .int .i64 a1_1, .int .i64 a1_2] 26 (0, 0)) (by (with_reducible repeat (first | apply zae | apply zai | apply zad)); exact BK310.out) hb); have n2_ := Aside0.mk (zam (by repeat (first | (with_reducible first | exact HB.out | apply zac | apply zaa | apply zaf | refine zab ?_ GE309.out | refine zab ?_ GE310.out) | exact HB.out)) hb); clear BK309; clear BK310; clear HB; have BK309 := n0_; have BK310 := n1_; have HB := n2_; clear n0_ n1_ n2_; (try clear hb); (try clear hb2); (try clear hk); (try clear hi)) | ((with_reducible refine zaK (N := 7) rfl ?_); (try (refine zbn (by rfl) ?_; dsimp only)); refine zaI ?hg (N := 7) ?hd (cs := #[.int .i64 0, .int .i64 0]) (t := 24) ?hr ?_; (case hd => rfl); (case hg => rfl); (case hr => first | (go_simp; done) | (go_simp; rfl)); intro gb318 hg w39 hbox hb; have n0_ := Aside0.mk (zaj (g := gb309) (o := .cells #[.slice A0_0 l0_0.length c0_0, .int .i64 a0_1, .int .i64 a0_2] 26 (0, 0)) (by (with_reducible repeat (first | apply zae | apply zai | apply zad)); exact BK309.out) hb); have n1_ := Aside0.mk (zaj (g := gb310) (o := .cells #[.slice A1_0 l1_0.length c1_0, .int .i64 a1_1, .int .i64 a1_2] 26 (0, 0)) (by (with_reducible repeat (first | apply zae | apply zai | apply zad)); exact BK310.out) hb); have n2_ := Aside0.mk (zam (by repeat (first | (with_reducible first | exact HB.out | apply zac | apply zaa | apply zaf | refine zab ?_ GE309.out | refine zab ?_ GE310.out) | exact HB.out)) hb); have n3_ := Aside0.mk (hbox); have n4_ := Aside0.mk ((by rw [hg]; exact (zao (by repeat (first | (with_reducible first | exact HB.out | apply zac | apply zaa | apply zaf | refine zab ?_ GE309.out | refine zab ?_ GE310.out) | exact HB.out))) : w.heap.size ≤ gb318)); have n5_ := n4_; have n6_ := Aside0.mk ((by rw [hg]; exact Nat.ne_of_lt (za3 (g := gb309) (o := .cells #[.slice A0_0 l0_0.length c0_0, .int .i64 a0_1, .int .i64 a0_2] 26 (0, 0)) (by (with_reducible repeat (first | apply zae | apply zai | apply zad)); exact BK309.out)) : gb309 ≠ gb318)); have n7_ := Aside0.mk n6_.out.symm; have n8_ := Aside0.mk ((by rw [hg]; exact Nat.ne_of_lt (za3 (g := gb310) (o := .cells #[.slice A1_0 l1_0.length c1_0, .int .i64 a1_1, .int .i64 a1_2] 26 (0, 0)) (by (with_reducible repeat (first | apply zae | apply zai | apply zad)); exact BK310.out)) : gb310 ≠ gb318)); have n9_ := Aside0.mk n8_.out.symm; clear BK309; clear BK310; clear HB; have BK309 := n0_; have BK310 := n1_; have HB := n2_; have BK318 := n3_; have GW318 := n4_; have GE318 := n5_; have NB309_318 := n6_; have NB318_309 := n7_; have NB310_318 := n8_; have NB318_310 := n9_; clear n0_ n1_ n2_ n3_ n4_ n5_ n6_ n7_ n8_ n9_; clear hb hbox hg; have hnb40 := NB318_309.out; have hnc40 := NB309_318.out; have hnb41 := NB318_310.out; have hnc41 := NB310_318.out; have hcz42_0 : w39.cell? ⟨gb318, 0, none⟩ = some (.int .i64 0) := (zak BK318.out 0).trans rfl; have hcz42_1 : w39.cell? ⟨gb318, 1, none⟩ = some (.int .i64 0) := (zak BK318.out 1).trans rfl; have hfz42_0 := zah BK318.out 0; have hfz42_1 := zah BK318.out 1; have hcz43_0 : w39.cell? ⟨gb309, 0, none⟩ = some (.slice A0_0 l0_0.length c0_0) := (zak BK309.out 0).trans rfl; have hcz43_1 : w39.cell? ⟨gb309, 1, none⟩ = some (.int .i64 a0_1) := (zak BK309.out 1).trans rfl; have hcz43_2 : w39.cell? ⟨gb309, 2, none⟩ = some (.int .i64 a0_2) := (zak BK309.out 2).trans rfl; have hfz43_0 := zah BK309.out 0; have hfz43_1 := zah BK309.out 1; have hfz43_2 := zah BK309.out 2) | ((with_reducible refine zat (f := 25) rfl ?_); refine za9 (some 46) rfl rfl Tryd.func25 (by kernel_rfl) rfl #[.agg #[.slice A0_0 l0_0.length c0_0, .int .i64 a0_1, .int .i64 a0_2], .slice A2 l2.length c2] rfl (by (try simp only [List.map_toArray, List.map_cons, List.map_nil]); first | done | rfl | (simp only [List.length_drop, List.length_take]; rfl)) ?_; (with_reducible refine (zan.calls kj3 _ _ l0_0 a0_1 a0_2 _ _ l2 t319 t320 t321 _ ?side1 ?side2 ?side3 ?side4 A34.out).mono ?_); (case side1 => exact Kd.zbd HR0_0.out (by repeat (first | (with_reducible first | exact HB.out | apply zac | apply zaa | apply zaf | refine zab ?_ GE309.out | refine zab ?_ GE310.out | refine zab ?_ GE318.out) | exact HB.out))); (case side2 => exact HC0_0.out); (case side3 => exact Kd.zbd HR2.out (by repeat (first | (with_reducible first | exact HB.out | apply zac | apply zaa | apply zaf | refine zab ?_ GE309.out | refine zab ?_ GE310.out | refine zab ?_ GE318.out) | exact HB.out))); (case side4 => exact HC2.out); rintro e w44 ⟨rfl, hb⟩; refine ⟨_, rfl, ?_⟩; have n0_ := Aside0.mk (zaj (g := gb309) (o := .cells #[.slice A0_0 l0_0.length c0_0, .int .i64 a0_1, .int .i64 a0_2] 26 (0, 0)) (by (repeat (first | (with_reducible first | apply zae | apply zai | apply zad) | refine zaA ?_ NB309_318.out _)); exact BK309.out) hb); have n1_ := Aside0.mk (zaj (g := gb310) (o := .cells #[.slice A1_0 l1_0.length c1_0, .int .i64 a1_1, .int .i64 a1_2] 26 (0, 0)) (by (repeat (first | (with_reducible first | apply zae | apply zai | apply zad) | refine zaA ?_ NB310_318.out _)); exact BK310.out) hb); have n2_ := Aside0.mk (zaj (g := gb318) (o := .cells #[.int .i64 t315, .int .i64 t316] 24 (0, 0)) (by (with_reducible repeat (first | apply zae | apply zai | apply zad)); refine zay (cs := #[.int .i64 t315, .int .i64 0]) ?_ 1 _ rfl; (with_reducible repeat (first | apply zae | apply zai | apply zad)); refine zay (cs := #[.int .i64 0, .int .i64 0]) ?_ 0 _ rfl; (with_reducible repeat (first | apply zae | apply zai | apply zad)); exact BK318.out) hb); have n3_ := Aside0.mk (zam (by repeat (first | (with_reducible first | exact HB.out | apply zac | apply zaa | apply zaf | refine zab ?_ GE309.out | refine zab ?_ GE310.out | refine zab ?_ GE318.out) | exact HB.out)) hb); clear BK309; clear BK310; clear BK318; clear HB; have BK309 := n0_; have BK310 := n1_; have BK318 := n2_; have HB := n3_; clear n0_ n1_ n2_ n3_; (try clear hb); (try clear hb2); (try clear hk); (try clear hi)) | ((with_reducible refine zaK (N := 9) rfl ?_); (try (refine zbn (by rfl) ?_; dsimp only)); refine zaI ?hg (N := 9) ?hd (cs := #[.int .i64 0, .int .i64 0]) (t := 24) ?hr ?_; (case hd => rfl); (case hg => rfl); (case hr => first | (go_simp; done) | (go_simp; rfl)); intro gb322 hg w45 hbox hb; have n0_ := Aside0.mk (zaj (g := gb309) (o := .cells #[.slice A0_0 l0_0.length c0_0, .int .i64 a0_1, .int .i64 a0_2] 26 (0, 0)) (by (with_reducible repeat (first | apply zae | apply zai | apply zad)); exact BK309.out) hb); have n1_ := Aside0.mk (zaj (g := gb310) (o := .cells #[.slice A1_0 l1_0.length c1_0, .int .i64 a1_1, .int .i64 a1_2] 26 (0, 0)) (by (with_reducible repeat (first | apply zae | apply zai | apply zad)); exact BK310.out) hb); have n2_ := Aside0.mk (zaj (g := gb318) (o := .cells #[.int .i64 t315, .int .i64 t316] 24 (0, 0)) (by (with_reducible repeat (first | apply zae | apply zai | apply zad)); exact BK318.out) hb); have n3_ := Aside0.mk (zam (by repeat (first | (with_reducible first | exact HB.out | apply zac | apply zaa | apply zaf | refine zab ?_ GE309.out | refine zab ?_ GE310.out | refine zab ?_ GE318.out) | exact HB.out)) hb); have n4_ := Aside0.mk (hbox); have n5_ := Aside0.mk ((by rw [hg]; exact (zao (by repeat (first | (with_reducible first | exact HB.out | apply zac | apply zaa | apply zaf | refine zab ?_ GE309.out | refine zab ?_ GE310.out | refine zab ?_ GE318.out) | exact HB.out))) : w.heap.size ≤ gb322)); have n6_ := n5_; have n7_ := Aside0.mk ((by rw [hg]; exact Nat.ne_of_lt (za3 (g := gb309) (o := .cells #[.slice A0_0 l0_0.length c0_0, .int .i64 a0_1, .int .i64 a0_2] 26 (0, 0)) (by (with_reducible repeat (first | apply zae | apply zai | apply zad)); exact BK309.out)) : gb309 ≠ gb322)); have n8_ := Aside0.mk n7_.out.symm; have n9_ := Aside0.mk ((by rw [hg]; exact Nat.ne_of_lt (za3 (g := gb310) (o := .cells #[.slice A1_0 l1_0.length c1_0, .int .i64 a1_1, .int .i64 a1_2] 26 (0, 0)) (by (with_reducible repeat (first | apply zae | apply zai | apply zad)); exact BK310.out)) : gb310 ≠ gb322)); have n10_ := Aside0.mk n9_.out.symm; have n11_ := Aside0.mk ((by rw [hg]; exact Nat.ne_of_lt (za3 (g := gb318) (o := .cells #[.int .i64 t315, .int .i64 t316] 24 (0, 0)) (by (with_reducible repeat (first | apply zae | apply zai | apply zad)); exact BK318.out)) : gb318 ≠ gb322)); have n12_ := Aside0.mk n11_.out.symm; clear BK309; clear BK310; clear BK318; clear HB; have BK309 := n0_; have BK310 := n1_; have BK318 := n2_; have HB := n3_; have BK322 := n4_; have GW322 := n5_; have GE322 := n6_; have NB309_322 := n7_; have NB322_309 := n8_; have NB310_322 := n9_; have NB322_310 := n10_; have NB318_322 := n11_; have NB322_318 := n12_; clear n0_ n1_ n2_ n3_ n4_ n5_ n6_ n7_ n8_ n9_ n10_ n11_ n12_; clear hb hbox hg; have hnb46 := NB322_309.out; have hnc46 := NB309_322.out; have hnb47 := NB322_310.out; have hnc47 := NB310_322.out; have hnb48 := NB322_318.out; have hnc48 := NB318_322.out; have hcz49_0 : w45.cell? ⟨gb322, 0, none⟩ = some (.int .i64 0) := (zak BK322.out 0).trans rfl; have hcz49_1 : w45.cell? ⟨gb322, 1, none⟩ = some (.int .i64 0) := (zak BK322.out 1).trans rfl; have hfz49_0 := zah BK322.out 0; have hfz49_1 := zah BK322.out 1))
    (try simp only [Act.put, List.setIfInBounds_toArray, List.set_cons_zero, List.set_cons_succ])
    go_cut [56] (fun v56 wc => ∃ (kq : Nat) (x56_34 : Bool), v56 = .bool x56_34 ∧ Aside0 (zal.j1 kq l2 t317 x56_34 l0_0 a0_1 a0_2 l1_0 a1_1 a1_2 t315 t316 = some r) ∧ Aside0 (kq ≤ kj3) ∧ Aside0 (wc.heap[gb309]? = some (.cells #[(.slice A0_0 l0_0.length c0_0), .int .i64 a0_1, .int .i64 a0_2] 26 (0, 0))) ∧ Aside0 (wc.heap[gb310]? = some (.cells #[(.slice A1_0 l1_0.length c1_0), .int .i64 a1_1, .int .i64 a1_2] 26 (0, 0))) ∧ Aside0 (wc.heap[gb318]? = some (.cells #[.int .i64 t315, .int .i64 t316] 24 (0, 0))) ∧ Aside0 (wc.heap[gb322]? = some (.cells #[.int .i64 t319, .int .i64 t320] 24 (0, 0))) ∧ Aside0 (Below w.heap.size w wc))
    case first =>
     have H := HC35.out
     clear HC35
     by_cases c50 : (!(t315 == t319) || (!(t316 == t320))) = true
     ·rw [if_pos c50] at H
      have c50b0 : (!(t315 == t319) || (!(t316 == t320))) = true := c50
      clear c50
      (first | rw [c50b0] | (simp only [zaL, zaN]; rw [c50b0]) | skip)
      have H' := Aside0.mk H
      clear H
      have hnb51 := NB318_309.out
      have hnc51 := NB309_318.out
      have hnb52 := NB318_310.out
      have hnc52 := NB310_318.out
      have hnb53 := NB318_322.out
      have hnc53 := NB322_318.out
      have hcz54_0 : w45.cell? ⟨gb318, 0, none⟩ = some (.int .i64 t315) := (zak BK318.out 0).trans rfl
      have hcz54_1 : w45.cell? ⟨gb318, 1, none⟩ = some (.int .i64 t316) := (zak BK318.out 1).trans rfl
      have hfz54_0 := zah BK318.out 0
      have hfz54_1 := zah BK318.out 1
      have hnb55 := NB322_309.out
      have hnc55 := NB309_322.out
      have hnb56 := NB322_310.out
      have hnc56 := NB310_322.out
      have hcz57_0 : w45.cell? ⟨gb322, 0, none⟩ = some (.int .i64 0) := (zak BK322.out 0).trans rfl
      have hcz57_1 : w45.cell? ⟨gb322, 1, none⟩ = some (.int .i64 0) := (zak BK322.out 1).trans rfl
      have hfz57_0 := zah BK322.out 0
      have hfz57_1 := zah BK322.out 1
      go_wp2
      go_meet
      case rel => exact ⟨_, (true), (by first | rfl | (simp; done) | (simp [*]; done)), H', ⟨by have := HJ3.out; first | omega | exact Nat.le_refl _⟩, ⟨by (repeat (first | (with_reducible first | apply zae | apply zai | apply zad) | refine zaA ?_ NB309_322.out _)); exact BK309.out⟩, ⟨by (repeat (first | (with_reducible first | apply zae | apply zai | apply zad) | refine zaA ?_ NB310_322.out _)); exact BK310.out⟩, ⟨by (repeat (first | (with_reducible first | apply zae | apply zai | apply zad) | refine zaA ?_ NB318_322.out _)); exact BK318.out⟩, ⟨by (with_reducible repeat (first | apply zae | apply zai | apply zad)); refine zay (cs := #[.int .i64 t319, .int .i64 0]) ?_ 1 _ rfl; (with_reducible repeat (first | apply zae | apply zai | apply zad)); refine zay (cs := #[.int .i64 0, .int .i64 0]) ?_ 0 _ rfl; (with_reducible repeat (first | apply zae | apply zai | apply zad)); exact BK322.out⟩, ⟨by repeat (first | (with_reducible first | exact HB.out | apply zac | apply zaa | apply zaf | refine zab ?_ GE309.out | refine zab ?_ GE310.out | refine zab ?_ GE318.out | refine zab ?_ GE322.out) | exact HB.out)⟩⟩
     ·rw [if_neg c50] at H
      have c50b0 : (!(t315 == t319) || (!(t316 == t320))) = false := by simpa using c50
      clear c50
      (first | rw [c50b0] | (simp only [zaL, zaN]; rw [c50b0]) | skip)
      have H' := Aside0.mk H
      clear H
      have hnb58 := NB318_309.out
      have hnc58 := NB309_318.out
      have hnb59 := NB318_310.out
      have hnc59 := NB310_318.out
      have hnb60 := NB318_322.out
      have hnc60 := NB322_318.out
      have hcz61_0 : w45.cell? ⟨gb318, 0, none⟩ = some (.int .i64 t315) := (zak BK318.out 0).trans rfl
      have hcz61_1 : w45.cell? ⟨gb318, 1, none⟩ = some (.int .i64 t316) := (zak BK318.out 1).trans rfl
      have hfz61_0 := zah BK318.out 0
      have hfz61_1 := zah BK318.out 1
      have hnb62 := NB322_309.out
      have hnc62 := NB309_322.out
      have hnb63 := NB322_310.out
      have hnc63 := NB310_322.out
      have hcz64_0 : w45.cell? ⟨gb322, 0, none⟩ = some (.int .i64 0) := (zak BK322.out 0).trans rfl
      have hcz64_1 : w45.cell? ⟨gb322, 1, none⟩ = some (.int .i64 0) := (zak BK322.out 1).trans rfl
      have hfz64_0 := zah BK322.out 0
      have hfz64_1 := zah BK322.out 1
      go_wp2
      go_meet
      case rel => exact ⟨_, ((t317 != t321)), (by first | rfl | (simp; done) | (simp [*]; done)), H', ⟨by have := HJ3.out; first | omega | exact Nat.le_refl _⟩, ⟨by (repeat (first | (with_reducible first | apply zae | apply zai | apply zad) | refine zaA ?_ NB309_322.out _)); exact BK309.out⟩, ⟨by (repeat (first | (with_reducible first | apply zae | apply zai | apply zad) | refine zaA ?_ NB310_322.out _)); exact BK310.out⟩, ⟨by (repeat (first | (with_reducible first | apply zae | apply zai | apply zad) | refine zaA ?_ NB318_322.out _)); exact BK318.out⟩, ⟨by (with_reducible repeat (first | apply zae | apply zai | apply zad)); refine zay (cs := #[.int .i64 t319, .int .i64 0]) ?_ 1 _ rfl; (with_reducible repeat (first | apply zae | apply zai | apply zad)); refine zay (cs := #[.int .i64 0, .int .i64 0]) ?_ 0 _ rfl; (with_reducible repeat (first | apply zae | apply zai | apply zad)); exact BK322.out⟩, ⟨by repeat (first | (with_reducible first | exact HB.out | apply zac | apply zaa | apply zaf | refine zab ?_ GE309.out | refine zab ?_ GE310.out | refine zab ?_ GE318.out | refine zab ?_ GE322.out) | exact HB.out)⟩⟩
    case rest =>
     clear HC35
     (try clear c1); (try clear c2); (try clear p2); (try clear c3); (try clear c4); (try clear c5); (try clear c6); (try clear c8); (try clear c9); (try clear c10); (try clear c12); (try clear c14); (try clear c20); (try clear c24); (try clear c25); (try clear c26); (try clear c30); (try clear c36); (try clear c40); (try clear c41); (try clear c46); (try clear c47); (try clear c48); (try clear c50); (try clear c50b0); (try clear c51); (try clear c52); (try clear c53); (try clear c55); (try clear c56); (try clear c58); (try clear c59); (try clear c60); (try clear c62); (try clear c63); (try clear hcz15_0); (try clear hcz15_1); (try clear hcz15_2); (try clear hcz17_0); (try clear hcz17_1); (try clear hcz17_2); (try clear hcz21_0); (try clear hcz21_1); (try clear hcz21_2); (try clear hcz23_0); (try clear hcz23_1); (try clear hcz23_2); (try clear hcz27_0); (try clear hcz27_1); (try clear hcz27_2); (try clear hcz37_0); (try clear hcz37_1); (try clear hcz37_2); (try clear hcz42_0); (try clear hcz42_1); (try clear hcz43_0); (try clear hcz43_1); (try clear hcz43_2); (try clear hcz49_0); (try clear hcz49_1); (try clear hcz54_0); (try clear hcz54_1); (try clear hcz57_0); (try clear hcz57_1); (try clear hcz61_0); (try clear hcz61_1); (try clear hcz64_0); (try clear hcz64_1); (try clear hfz15_0); (try clear hfz15_1); (try clear hfz15_2); (try clear hfz17_0); (try clear hfz17_1); (try clear hfz17_2); (try clear hfz21_0); (try clear hfz21_1); (try clear hfz21_2); (try clear hfz23_0); (try clear hfz23_1); (try clear hfz23_2); (try clear hfz27_0); (try clear hfz27_1); (try clear hfz27_2); (try clear hfz37_0); (try clear hfz37_1); (try clear hfz37_2); (try clear hfz42_0); (try clear hfz42_1); (try clear hfz43_0); (try clear hfz43_1); (try clear hfz43_2); (try clear hfz49_0); (try clear hfz49_1); (try clear hfz54_0); (try clear hfz54_1); (try clear hfz57_0); (try clear hfz57_1); (try clear hfz61_0); (try clear hfz61_1); (try clear hfz64_0); (try clear hfz64_1); (try clear p2)
     obtain ⟨kq, x56_34, rfl, HA, HJ34, BK309, BK310, BK318, BK322, HB⟩ := hcut
     cases kq with
     | zero => exact absurd HA.out (by simp [zal.j1])
     | succ kj34 =>
      have H := HA.out
      clear HA
      simp only [zal.j1] at H
      by_cases c65 : x56_34 = true
      ·subst c65
       have H1 : (some false) = some r := by rw [if_pos rfl] at H; exact H
       clear H
       have H := H1
       clear H1
       subst hr_
       exact absurd H (by simp)
      ·replace c65 := Bool.eq_false_iff.mpr c65
       subst c65
       have H1 : ((zaM.f kj34 l1_0 a1_1 a1_2 l2).bind fun bt323 => ((zb3.f l0_0 a0_1 a0_2 l1_0 a1_1 a1_2).bind fun bt327 => ((zaM.f kj34 bt327.1 bt327.2.1 bt327.2.2.1 l2).bind fun bt334 => ((za2.f 0 t315 t316 bt323.1 bt323.2.1).bind fun bt338 => (if t317 = 0 then (if bt323.2.2 = 0 then (if bt327.2.2.2 = 0 then (if bt334.2.2 = 0 then (if bt338.2.2 = 0 then (zal.j2 kj34 (bt334.1 == bt338.1 && (bt334.2.1 == bt338.2.1))) else (zal.j2 kj34 true)) else (zal.j2 kj34 true)) else (zal.j2 kj34 true)) else (zal.j2 kj34 true)) else (zal.j2 kj34 true)))))) = some r := by rw [if_neg (show ¬ (false = true) by decide)] at H; exact H
       clear H
       have H := H1
       clear H1
       replace H := Option.bind_eq_some_iff.mp H
       obtain ⟨⟨t323, t324, t325⟩, A660, H⟩ := H
       replace H : ((zb3.f l0_0 a0_1 a0_2 l1_0 a1_1 a1_2).bind fun bt327 => ((zaM.f kj34 bt327.1 bt327.2.1 bt327.2.2.1 l2).bind fun bt334 => ((za2.f 0 t315 t316 t323 t324).bind fun bt338 => (if t317 = 0 then (if t325 = 0 then (if bt327.2.2.2 = 0 then (if bt334.2.2 = 0 then (if bt338.2.2 = 0 then (zal.j2 kj34 (bt334.1 == bt338.1 && (bt334.2.1 == bt338.2.1))) else (zal.j2 kj34 true)) else (zal.j2 kj34 true)) else (zal.j2 kj34 true)) else (zal.j2 kj34 true)) else (zal.j2 kj34 true))))) = some r := H
       have A66 := Aside0.mk A660
       clear A660
       replace H := Option.bind_eq_some_iff.mp H
       obtain ⟨⟨t327, t330, t331, t332⟩, A670, H⟩ := H
       replace H : ((zaM.f kj34 t327 t330 t331 l2).bind fun bt334 => ((za2.f 0 t315 t316 t323 t324).bind fun bt338 => (if t317 = 0 then (if t325 = 0 then (if t332 = 0 then (if bt334.2.2 = 0 then (if bt338.2.2 = 0 then (zal.j2 kj34 (bt334.1 == bt338.1 && (bt334.2.1 == bt338.2.1))) else (zal.j2 kj34 true)) else (zal.j2 kj34 true)) else (zal.j2 kj34 true)) else (zal.j2 kj34 true)) else (zal.j2 kj34 true)))) = some r := H
       have A67 := Aside0.mk A670
       clear A670
       replace H := Option.bind_eq_some_iff.mp H
       obtain ⟨⟨t334, t335, t336⟩, A680, H⟩ := H
       replace H : ((za2.f 0 t315 t316 t323 t324).bind fun bt338 => (if t317 = 0 then (if t325 = 0 then (if t332 = 0 then (if t336 = 0 then (if bt338.2.2 = 0 then (zal.j2 kj34 (t334 == bt338.1 && (t335 == bt338.2.1))) else (zal.j2 kj34 true)) else (zal.j2 kj34 true)) else (zal.j2 kj34 true)) else (zal.j2 kj34 true)) else (zal.j2 kj34 true))) = some r := H
       have A68 := Aside0.mk A680
       clear A680
       replace H := Option.bind_eq_some_iff.mp H
       obtain ⟨⟨t338, t339, t340⟩, A690, H⟩ := H
       replace H : (if t317 = 0 then (if t325 = 0 then (if t332 = 0 then (if t336 = 0 then (if t340 = 0 then (zal.j2 kj34 (t334 == t338 && (t335 == t339))) else (zal.j2 kj34 true)) else (zal.j2 kj34 true)) else (zal.j2 kj34 true)) else (zal.j2 kj34 true)) else (zal.j2 kj34 true)) = some r := H
       have A69 := Aside0.mk A690
       clear A690
       have HC70 := Aside0.mk H
       clear H
       have hnb71 := NB310_309.out
       have hnc71 := NB309_310.out
       have hnb72 := NB310_318.out
       have hnc72 := NB318_310.out
       have hnb73 := NB310_322.out
       have hnc73 := NB322_310.out
       have hcz74_0 : wc.cell? ⟨gb310, 0, none⟩ = some (.slice A1_0 l1_0.length c1_0) := (zak BK310.out 0).trans rfl
       have hcz74_1 : wc.cell? ⟨gb310, 1, none⟩ = some (.int .i64 a1_1) := (zak BK310.out 1).trans rfl
       have hcz74_2 : wc.cell? ⟨gb310, 2, none⟩ = some (.int .i64 a1_2) := (zak BK310.out 2).trans rfl
       have hfz74_0 := zah BK310.out 0
       have hfz74_1 := zah BK310.out 1
       have hfz74_2 := zah BK310.out 2
       go_upto_region 11 with (first | ((with_reducible refine zat (f := 24) rfl ?_); refine za9 (some 60) rfl rfl Tryd.func24 (by kernel_rfl) rfl #[.agg #[.slice A1_0 l1_0.length c1_0, .int .i64 a1_1, .int .i64 a1_2], .slice A2 l2.length c2] rfl (by (try simp only [List.map_toArray, List.map_cons, List.map_nil]); first | done | rfl | (simp only [List.length_drop, List.length_take]; rfl)) ?_; (with_reducible refine (zaM.calls kj34 _ _ l1_0 a1_1 a1_2 _ _ l2 t323 t324 t325 _ ?side1 ?side2 ?side3 ?side4 A66.out).mono ?_); (case side1 => repeat (first | exact (Kd.zbd HR1_0.out HB.out) | (with_reducible refine Kd.zbe ?_ _) | (with_reducible refine Kd.zbc ?_ _) | (with_reducible refine Kd.zbt ?_))); (case side2 => exact HC1_0.out); (case side3 => repeat (first | exact (Kd.zbd HR2.out HB.out) | (with_reducible refine Kd.zbe ?_ _) | (with_reducible refine Kd.zbc ?_ _) | (with_reducible refine Kd.zbt ?_))); (case side4 => exact HC2.out); rintro e w75 ⟨rfl, hb⟩; refine ⟨_, rfl, ?_⟩; have n0_ := Aside0.mk (zaj (g := gb309) (o := .cells #[.slice A0_0 l0_0.length c0_0, .int .i64 a0_1, .int .i64 a0_2] 26 (0, 0)) (by (with_reducible repeat (first | apply zae | apply zai | apply zad)); exact BK309.out) hb); have n1_ := Aside0.mk (zaj (g := gb310) (o := .cells #[.slice A1_0 l1_0.length c1_0, .int .i64 a1_1, .int .i64 a1_2] 26 (0, 0)) (by (with_reducible repeat (first | apply zae | apply zai | apply zad)); exact BK310.out) hb); have n2_ := Aside0.mk (zaj (g := gb318) (o := .cells #[.int .i64 t315, .int .i64 t316] 24 (0, 0)) (by (with_reducible repeat (first | apply zae | apply zai | apply zad)); exact BK318.out) hb); have n3_ := Aside0.mk (zaj (g := gb322) (o := .cells #[.int .i64 t319, .int .i64 t320] 24 (0, 0)) (by (with_reducible repeat (first | apply zae | apply zai | apply zad)); exact BK322.out) hb); have n4_ := Aside0.mk (zam (by repeat (first | (with_reducible first | exact HB.out | apply zac | apply zaa | apply zaf | refine zab ?_ GE309.out | refine zab ?_ GE310.out | refine zab ?_ GE318.out | refine zab ?_ GE322.out) | exact HB.out)) hb); clear BK309; clear BK310; clear BK318; clear BK322; clear HB; have BK309 := n0_; have BK310 := n1_; have BK318 := n2_; have BK322 := n3_; have HB := n4_; clear n0_ n1_ n2_ n3_ n4_; (try clear hb); (try clear hb2); (try clear hk); (try clear hi)) | ((with_reducible refine zaK (N := 11) rfl ?_); (try (refine zbn (by rfl) ?_; dsimp only)); refine zaI ?hg (N := 11) ?hd (cs := #[.int .i64 0, .int .i64 0]) (t := 24) ?hr ?_; (case hd => rfl); (case hg => rfl); (case hr => first | (go_simp; done) | (go_simp; rfl)); intro gb326 hg w76 hbox hb; have n0_ := Aside0.mk (zaj (g := gb309) (o := .cells #[.slice A0_0 l0_0.length c0_0, .int .i64 a0_1, .int .i64 a0_2] 26 (0, 0)) (by (with_reducible repeat (first | apply zae | apply zai | apply zad)); exact BK309.out) hb); have n1_ := Aside0.mk (zaj (g := gb310) (o := .cells #[.slice A1_0 l1_0.length c1_0, .int .i64 a1_1, .int .i64 a1_2] 26 (0, 0)) (by (with_reducible repeat (first | apply zae | apply zai | apply zad)); exact BK310.out) hb); have n2_ := Aside0.mk (zaj (g := gb318) (o := .cells #[.int .i64 t315, .int .i64 t316] 24 (0, 0)) (by (with_reducible repeat (first | apply zae | apply zai | apply zad)); exact BK318.out) hb); have n3_ := Aside0.mk (zaj (g := gb322) (o := .cells #[.int .i64 t319, .int .i64 t320] 24 (0, 0)) (by (with_reducible repeat (first | apply zae | apply zai | apply zad)); exact BK322.out) hb); have n4_ := Aside0.mk (zam (by repeat (first | (with_reducible first | exact HB.out | apply zac | apply zaa | apply zaf | refine zab ?_ GE309.out | refine zab ?_ GE310.out | refine zab ?_ GE318.out | refine zab ?_ GE322.out) | exact HB.out)) hb); have n5_ := Aside0.mk (hbox); have n6_ := Aside0.mk ((by rw [hg]; exact (zao (by repeat (first | (with_reducible first | exact HB.out | apply zac | apply zaa | apply zaf | refine zab ?_ GE309.out | refine zab ?_ GE310.out | refine zab ?_ GE318.out | refine zab ?_ GE322.out) | exact HB.out))) : w.heap.size ≤ gb326)); have n7_ := n6_; have n8_ := Aside0.mk ((by rw [hg]; exact Nat.ne_of_lt (za3 (g := gb309) (o := .cells #[.slice A0_0 l0_0.length c0_0, .int .i64 a0_1, .int .i64 a0_2] 26 (0, 0)) (by (with_reducible repeat (first | apply zae | apply zai | apply zad)); exact BK309.out)) : gb309 ≠ gb326)); have n9_ := Aside0.mk n8_.out.symm; have n10_ := Aside0.mk ((by rw [hg]; exact Nat.ne_of_lt (za3 (g := gb310) (o := .cells #[.slice A1_0 l1_0.length c1_0, .int .i64 a1_1, .int .i64 a1_2] 26 (0, 0)) (by (with_reducible repeat (first | apply zae | apply zai | apply zad)); exact BK310.out)) : gb310 ≠ gb326)); have n11_ := Aside0.mk n10_.out.symm; have n12_ := Aside0.mk ((by rw [hg]; exact Nat.ne_of_lt (za3 (g := gb318) (o := .cells #[.int .i64 t315, .int .i64 t316] 24 (0, 0)) (by (with_reducible repeat (first | apply zae | apply zai | apply zad)); exact BK318.out)) : gb318 ≠ gb326)); have n13_ := Aside0.mk n12_.out.symm; have n14_ := Aside0.mk ((by rw [hg]; exact Nat.ne_of_lt (za3 (g := gb322) (o := .cells #[.int .i64 t319, .int .i64 t320] 24 (0, 0)) (by (with_reducible repeat (first | apply zae | apply zai | apply zad)); exact BK322.out)) : gb322 ≠ gb326)); have n15_ := Aside0.mk n14_.out.symm; clear BK309; clear BK310; clear BK318; clear BK322; clear HB; have BK309 := n0_; have BK310 := n1_; have BK318 := n2_; have BK322 := n3_; have HB := n4_; have BK326 := n5_; have GW326 := n6_; have GE326 := n7_; have NB309_326 := n8_; have NB326_309 := n9_; have NB310_326 := n10_; have NB326_310 := n11_; have NB318_326 := n12_; have NB326_318 := n13_; have NB322_326 := n14_; have NB326_322 := n15_; clear n0_ n1_ n2_ n3_ n4_ n5_ n6_ n7_ n8_ n9_ n10_ n11_ n12_ n13_ n14_ n15_; clear hb hbox hg; have hnb77 := NB326_309.out; have hnc77 := NB309_326.out; have hnb78 := NB326_310.out; have hnc78 := NB310_326.out; have hnb79 := NB326_318.out; have hnc79 := NB318_326.out; have hnb80 := NB326_322.out; have hnc80 := NB322_326.out; have hcz81_0 : w76.cell? ⟨gb326, 0, none⟩ = some (.int .i64 0) := (zak BK326.out 0).trans rfl; have hcz81_1 : w76.cell? ⟨gb326, 1, none⟩ = some (.int .i64 0) := (zak BK326.out 1).trans rfl; have hfz81_0 := zah BK326.out 0; have hfz81_1 := zah BK326.out 1; have hnb82 := NB309_318.out; have hnc82 := NB318_309.out; have hnb83 := NB309_322.out; have hnc83 := NB322_309.out; have hcz84_0 : w76.cell? ⟨gb309, 0, none⟩ = some (.slice A0_0 l0_0.length c0_0) := (zak BK309.out 0).trans rfl; have hcz84_1 : w76.cell? ⟨gb309, 1, none⟩ = some (.int .i64 a0_1) := (zak BK309.out 1).trans rfl; have hcz84_2 : w76.cell? ⟨gb309, 2, none⟩ = some (.int .i64 a0_2) := (zak BK309.out 2).trans rfl; have hfz84_0 := zah BK309.out 0; have hfz84_1 := zah BK309.out 1; have hfz84_2 := zah BK309.out 2; have hcz85_0 : w76.cell? ⟨gb310, 0, none⟩ = some (.slice A1_0 l1_0.length c1_0) := (zak BK310.out 0).trans rfl; have hcz85_1 : w76.cell? ⟨gb310, 1, none⟩ = some (.int .i64 a1_1) := (zak BK310.out 1).trans rfl; have hcz85_2 : w76.cell? ⟨gb310, 2, none⟩ = some (.int .i64 a1_2) := (zak BK310.out 2).trans rfl; have hfz85_0 := zah BK310.out 0; have hfz85_1 := zah BK310.out 1; have hfz85_2 := zah BK310.out 2) | ((with_reducible refine zat (f := 19) rfl ?_); refine za9 (some 66) rfl rfl Tryd.func19 (by kernel_rfl) rfl #[.agg #[.slice A0_0 l0_0.length c0_0, .int .i64 a0_1, .int .i64 a0_2], .agg #[.slice A1_0 l1_0.length c1_0, .int .i64 a1_1, .int .i64 a1_2]] rfl (by (try simp only [List.map_toArray, List.map_cons, List.map_nil]); first | done | rfl | (simp only [List.length_drop, List.length_take]; rfl)) ?_; (with_reducible refine (zb3.calls _ _ l0_0 a0_1 a0_2 _ _ l1_0 a1_1 a1_2 t327 t330 t331 t332 _ ?side1 ?side2 ?side3 ?side4 A67.out).mono ?_); (case side1 => exact Kd.zbd HR0_0.out (by repeat (first | (with_reducible first | exact HB.out | apply zac | apply zaa | apply zaf | refine zab ?_ GE309.out | refine zab ?_ GE310.out | refine zab ?_ GE318.out | refine zab ?_ GE322.out | refine zab ?_ GE326.out) | exact HB.out))); (case side2 => exact HC0_0.out); (case side3 => exact Kd.zbd HR1_0.out (by repeat (first | (with_reducible first | exact HB.out | apply zac | apply zaa | apply zaf | refine zab ?_ GE309.out | refine zab ?_ GE310.out | refine zab ?_ GE318.out | refine zab ?_ GE322.out | refine zab ?_ GE326.out) | exact HB.out))); (case side4 => exact HC1_0.out); rintro e w86 ⟨v328, rfl, ho0, hb⟩; refine ⟨_, rfl, ?_⟩; have n0_ := Aside0.mk (Kd.zbF (Kd.zgq (Kd.zgq (Kd.zgq ho0 (g := gb318) (o := .cells #[.int .i64 t315, .int .i64 t316] 24 (0, 0)) (by (repeat (first | (with_reducible first | apply zae | apply zai | apply zad) | refine zaA ?_ NB318_326.out _)); exact BK318.out)) (g := gb322) (o := .cells #[.int .i64 t319, .int .i64 t320] 24 (0, 0)) (by (repeat (first | (with_reducible first | apply zae | apply zai | apply zad) | refine zaA ?_ NB322_326.out _)); exact BK322.out)) (g := gb326) (o := .cells #[.int .i64 t323, .int .i64 t324] 24 (0, 0)) (by (with_reducible repeat (first | apply zae | apply zai | apply zad)); refine zay (cs := #[.int .i64 t323, .int .i64 0]) ?_ 1 _ rfl; (with_reducible repeat (first | apply zae | apply zai | apply zad)); refine zay (cs := #[.int .i64 0, .int .i64 0]) ?_ 0 _ rfl; (with_reducible repeat (first | apply zae | apply zai | apply zad)); exact BK326.out)) (zao (by repeat (first | (with_reducible first | exact HB.out | apply zac | apply zaa | apply zaf | refine zab ?_ GE309.out | refine zab ?_ GE310.out | refine zab ?_ GE318.out | refine zab ?_ GE322.out | refine zab ?_ GE326.out) | exact HB.out)))); have n1_ := Aside0.mk (zaj (g := gb309) (o := .cells #[.slice A0_0 l0_0.length c0_0, .int .i64 a0_1, .int .i64 a0_2] 26 (0, 0)) (by (repeat (first | (with_reducible first | apply zae | apply zai | apply zad) | refine zaA ?_ NB309_326.out _)); exact BK309.out) hb); have n2_ := Aside0.mk (zaj (g := gb310) (o := .cells #[.slice A1_0 l1_0.length c1_0, .int .i64 a1_1, .int .i64 a1_2] 26 (0, 0)) (by (repeat (first | (with_reducible first | apply zae | apply zai | apply zad) | refine zaA ?_ NB310_326.out _)); exact BK310.out) hb); have n3_ := Aside0.mk (zaj (g := gb318) (o := .cells #[.int .i64 t315, .int .i64 t316] 24 (0, 0)) (by (repeat (first | (with_reducible first | apply zae | apply zai | apply zad) | refine zaA ?_ NB318_326.out _)); exact BK318.out) hb); have n4_ := Aside0.mk (zaj (g := gb322) (o := .cells #[.int .i64 t319, .int .i64 t320] 24 (0, 0)) (by (repeat (first | (with_reducible first | apply zae | apply zai | apply zad) | refine zaA ?_ NB322_326.out _)); exact BK322.out) hb); have n5_ := Aside0.mk (zaj (g := gb326) (o := .cells #[.int .i64 t323, .int .i64 t324] 24 (0, 0)) (by (with_reducible repeat (first | apply zae | apply zai | apply zad)); refine zay (cs := #[.int .i64 t323, .int .i64 0]) ?_ 1 _ rfl; (with_reducible repeat (first | apply zae | apply zai | apply zad)); refine zay (cs := #[.int .i64 0, .int .i64 0]) ?_ 0 _ rfl; (with_reducible repeat (first | apply zae | apply zai | apply zad)); exact BK326.out) hb); have n6_ := Aside0.mk (zam (by repeat (first | (with_reducible first | exact HB.out | apply zac | apply zaa | apply zaf | refine zab ?_ GE309.out | refine zab ?_ GE310.out | refine zab ?_ GE318.out | refine zab ?_ GE322.out | refine zab ?_ GE326.out) | exact HB.out)) hb); clear BK309; clear BK310; clear BK318; clear BK322; clear BK326; clear HB; have HO329 := n0_; have BK309 := n1_; have BK310 := n2_; have BK318 := n3_; have BK322 := n4_; have BK326 := n5_; have HB := n6_; clear n0_ n1_ n2_ n3_ n4_ n5_ n6_; (try clear hb); (try clear hb2); (try clear hk); (try clear hi); (try clear ho0)) | ((with_reducible refine zaK (N := 13) rfl ?_); (try (refine zbn (by rfl) ?_; dsimp only)); refine zaI ?hg (N := 13) ?hd (cs := #[.slice none 0 0, .int .i64 0, .int .i64 0]) (t := 26) ?hr ?_; (case hd => rfl); (case hg => rfl); (case hr => first | (go_simp; done) | (go_simp; rfl)); intro gb333 hg w87 hbox hb; have n0_ := Aside0.mk (Kd.zbM (by (with_reducible repeat (first | apply Kd.zaw | apply Kd.zax | apply Kd.zaE)); exact HO329.out) hb); have n1_ := Aside0.mk (zaj (g := gb309) (o := .cells #[.slice A0_0 l0_0.length c0_0, .int .i64 a0_1, .int .i64 a0_2] 26 (0, 0)) (by (with_reducible repeat (first | apply zae | apply zai | apply zad)); exact BK309.out) hb); have n2_ := Aside0.mk (zaj (g := gb310) (o := .cells #[.slice A1_0 l1_0.length c1_0, .int .i64 a1_1, .int .i64 a1_2] 26 (0, 0)) (by (with_reducible repeat (first | apply zae | apply zai | apply zad)); exact BK310.out) hb); have n3_ := Aside0.mk (zaj (g := gb318) (o := .cells #[.int .i64 t315, .int .i64 t316] 24 (0, 0)) (by (with_reducible repeat (first | apply zae | apply zai | apply zad)); exact BK318.out) hb); have n4_ := Aside0.mk (zaj (g := gb322) (o := .cells #[.int .i64 t319, .int .i64 t320] 24 (0, 0)) (by (with_reducible repeat (first | apply zae | apply zai | apply zad)); exact BK322.out) hb); have n5_ := Aside0.mk (zaj (g := gb326) (o := .cells #[.int .i64 t323, .int .i64 t324] 24 (0, 0)) (by (with_reducible repeat (first | apply zae | apply zai | apply zad)); exact BK326.out) hb); have n6_ := Aside0.mk (zam (by repeat (first | (with_reducible first | exact HB.out | apply zac | apply zaa | apply zaf | refine zab ?_ GE309.out | refine zab ?_ GE310.out | refine zab ?_ GE318.out | refine zab ?_ GE322.out | refine zab ?_ GE326.out) | exact HB.out)) hb); have n7_ := Aside0.mk (hbox); have n8_ := Aside0.mk ((by rw [hg]; exact (zao (by repeat (first | (with_reducible first | exact HB.out | apply zac | apply zaa | apply zaf | refine zab ?_ GE309.out | refine zab ?_ GE310.out | refine zab ?_ GE318.out | refine zab ?_ GE322.out | refine zab ?_ GE326.out) | exact HB.out))) : w.heap.size ≤ gb333)); have n9_ := n8_; have n10_ := Aside0.mk ((by rw [hg]; exact Nat.ne_of_lt (za3 (g := gb309) (o := .cells #[.slice A0_0 l0_0.length c0_0, .int .i64 a0_1, .int .i64 a0_2] 26 (0, 0)) (by (with_reducible repeat (first | apply zae | apply zai | apply zad)); exact BK309.out)) : gb309 ≠ gb333)); have n11_ := Aside0.mk n10_.out.symm; have n12_ := Aside0.mk ((by rw [hg]; exact Nat.ne_of_lt (za3 (g := gb310) (o := .cells #[.slice A1_0 l1_0.length c1_0, .int .i64 a1_1, .int .i64 a1_2] 26 (0, 0)) (by (with_reducible repeat (first | apply zae | apply zai | apply zad)); exact BK310.out)) : gb310 ≠ gb333)); have n13_ := Aside0.mk n12_.out.symm; have n14_ := Aside0.mk ((by rw [hg]; exact Nat.ne_of_lt (za3 (g := gb318) (o := .cells #[.int .i64 t315, .int .i64 t316] 24 (0, 0)) (by (with_reducible repeat (first | apply zae | apply zai | apply zad)); exact BK318.out)) : gb318 ≠ gb333)); have n15_ := Aside0.mk n14_.out.symm; have n16_ := Aside0.mk ((by rw [hg]; exact Nat.ne_of_lt (za3 (g := gb322) (o := .cells #[.int .i64 t319, .int .i64 t320] 24 (0, 0)) (by (with_reducible repeat (first | apply zae | apply zai | apply zad)); exact BK322.out)) : gb322 ≠ gb333)); have n17_ := Aside0.mk n16_.out.symm; have n18_ := Aside0.mk ((by rw [hg]; exact Nat.ne_of_lt (za3 (g := gb326) (o := .cells #[.int .i64 t323, .int .i64 t324] 24 (0, 0)) (by (with_reducible repeat (first | apply zae | apply zai | apply zad)); exact BK326.out)) : gb326 ≠ gb333)); have n19_ := Aside0.mk n18_.out.symm; clear HO329; clear BK309; clear BK310; clear BK318; clear BK322; clear BK326; clear HB; have HO329 := n0_; have BK309 := n1_; have BK310 := n2_; have BK318 := n3_; have BK322 := n4_; have BK326 := n5_; have HB := n6_; have BK333 := n7_; have GW333 := n8_; have GE333 := n9_; have NB309_333 := n10_; have NB333_309 := n11_; have NB310_333 := n12_; have NB333_310 := n13_; have NB318_333 := n14_; have NB333_318 := n15_; have NB322_333 := n16_; have NB333_322 := n17_; have NB326_333 := n18_; have NB333_326 := n19_; clear n0_ n1_ n2_ n3_ n4_ n5_ n6_ n7_ n8_ n9_ n10_ n11_ n12_ n13_ n14_ n15_ n16_ n17_ n18_ n19_; clear hb hbox hg; obtain ⟨Ao88, co88, eo88⟩ := Kd.zbx HO329.out; subst eo88; have hnb89 := NB333_309.out; have hnc89 := NB309_333.out; have hnb90 := NB333_310.out; have hnc90 := NB310_333.out; have hnb91 := NB333_318.out; have hnc91 := NB318_333.out; have hnb92 := NB333_322.out; have hnc92 := NB322_333.out; have hnb93 := NB333_326.out; have hnc93 := NB326_333.out; have hcz94_0 : w87.cell? ⟨gb333, 0, none⟩ = some (.slice none 0 0) := (zak BK333.out 0).trans rfl; have hcz94_1 : w87.cell? ⟨gb333, 1, none⟩ = some (.int .i64 0) := (zak BK333.out 1).trans rfl; have hcz94_2 : w87.cell? ⟨gb333, 2, none⟩ = some (.int .i64 0) := (zak BK333.out 2).trans rfl; have hfz94_0 := zah BK333.out 0; have hfz94_1 := zah BK333.out 1; have hfz94_2 := zah BK333.out 2) | ((with_reducible refine zat (f := 24) rfl ?_); refine za9 (some 72) rfl rfl Tryd.func24 (by kernel_rfl) rfl #[.agg #[.slice Ao88 t327.length co88, .int .i64 t330, .int .i64 t331], .slice A2 l2.length c2] rfl (by (try simp only [List.map_toArray, List.map_cons, List.map_nil]); first | done | rfl | (simp only [List.length_drop, List.length_take]; rfl)) ?_; (with_reducible refine (zaM.calls kj34 _ _ t327 t330 t331 _ _ l2 t334 t335 t336 _ ?side1 ?side2 ?side3 ?side4 A68.out).mono ?_); (case side1 => refine (Kd.zbk (e := 24) (base := w.heap.size) (ok := fun k_ => (((True ∧ k_ ≠ gb318) ∧ k_ ≠ gb322) ∧ k_ ≠ gb326)) (n := t327.length) (c := co88) ?_).2.2; exact (by (with_reducible repeat (first | apply Kd.zaw | apply Kd.zax | apply Kd.zaE)); exact (Kd.zbj (Kd.zbN (p := ⟨gb333, 2, none⟩) (Kd.zbN (p := ⟨gb333, 1, none⟩) (Kd.zbN (p := ⟨gb333, 0, none⟩) (Kd.zb0 HO329.out BK333.out (by decide)) (fun _ hk => hk.2) (.slice Ao88 t327.length co88)) (fun _ hk => hk.2) (.int .i64 t330)) (fun _ hk => hk.2) (.int .i64 t331)) (fun _ h_ => h_.1)))); (case side2 => exact (Kd.zbk HO329.out).2.1); (case side3 => exact Kd.zbd HR2.out (by repeat (first | (with_reducible first | exact HB.out | apply zac | apply zaa | apply zaf | refine zab ?_ GE309.out | refine zab ?_ GE310.out | refine zab ?_ GE318.out | refine zab ?_ GE322.out | refine zab ?_ GE326.out | refine zab ?_ GE333.out) | exact HB.out))); (case side4 => exact HC2.out); rintro e w95 ⟨rfl, hb⟩; refine ⟨_, rfl, ?_⟩; have n0_ := Aside0.mk (Kd.zbM (by (with_reducible repeat (first | apply Kd.zaw | apply Kd.zax | apply Kd.zaE)); exact (Kd.zbj (Kd.zbN (p := ⟨gb333, 2, none⟩) (Kd.zbN (p := ⟨gb333, 1, none⟩) (Kd.zbN (p := ⟨gb333, 0, none⟩) (Kd.zb0 HO329.out BK333.out (by decide)) (fun _ hk => hk.2) (.slice Ao88 t327.length co88)) (fun _ hk => hk.2) (.int .i64 t330)) (fun _ hk => hk.2) (.int .i64 t331)) (fun _ h_ => h_.1))) hb); have n1_ := Aside0.mk (zaj (g := gb309) (o := .cells #[.slice A0_0 l0_0.length c0_0, .int .i64 a0_1, .int .i64 a0_2] 26 (0, 0)) (by (repeat (first | (with_reducible first | apply zae | apply zai | apply zad) | refine zaA ?_ NB309_333.out _)); exact BK309.out) hb); have n2_ := Aside0.mk (zaj (g := gb310) (o := .cells #[.slice A1_0 l1_0.length c1_0, .int .i64 a1_1, .int .i64 a1_2] 26 (0, 0)) (by (repeat (first | (with_reducible first | apply zae | apply zai | apply zad) | refine zaA ?_ NB310_333.out _)); exact BK310.out) hb); have n3_ := Aside0.mk (zaj (g := gb318) (o := .cells #[.int .i64 t315, .int .i64 t316] 24 (0, 0)) (by (repeat (first | (with_reducible first | apply zae | apply zai | apply zad) | refine zaA ?_ NB318_333.out _)); exact BK318.out) hb); have n4_ := Aside0.mk (zaj (g := gb322) (o := .cells #[.int .i64 t319, .int .i64 t320] 24 (0, 0)) (by (repeat (first | (with_reducible first | apply zae | apply zai | apply zad) | refine zaA ?_ NB322_333.out _)); exact BK322.out) hb); have n5_ := Aside0.mk (zaj (g := gb326) (o := .cells #[.int .i64 t323, .int .i64 t324] 24 (0, 0)) (by (repeat (first | (with_reducible first | apply zae | apply zai | apply zad) | refine zaA ?_ NB326_333.out _)); exact BK326.out) hb); have n6_ := Aside0.mk (zaj (g := gb333) (o := .cells #[.slice Ao88 t327.length co88, .int .i64 t330, .int .i64 t331] 26 (0, 0)) (by (with_reducible repeat (first | apply zae | apply zai | apply zad)); refine zay (cs := #[.slice Ao88 t327.length co88, .int .i64 t330, .int .i64 0]) ?_ 2 _ rfl; (with_reducible repeat (first | apply zae | apply zai | apply zad)); refine zay (cs := #[.slice Ao88 t327.length co88, .int .i64 0, .int .i64 0]) ?_ 1 _ rfl; (with_reducible repeat (first | apply zae | apply zai | apply zad)); refine zay (cs := #[.slice none 0 0, .int .i64 0, .int .i64 0]) ?_ 0 _ rfl; (with_reducible repeat (first | apply zae | apply zai | apply zad)); exact BK333.out) hb); have n7_ := Aside0.mk (zam (by repeat (first | (with_reducible first | exact HB.out | apply zac | apply zaa | apply zaf | refine zab ?_ GE309.out | refine zab ?_ GE310.out | refine zab ?_ GE318.out | refine zab ?_ GE322.out | refine zab ?_ GE326.out | refine zab ?_ GE333.out) | exact HB.out)) hb); clear HO329; clear BK309; clear BK310; clear BK318; clear BK322; clear BK326; clear BK333; clear HB; have HO329 := n0_; have BK309 := n1_; have BK310 := n2_; have BK318 := n3_; have BK322 := n4_; have BK326 := n5_; have BK333 := n6_; have HB := n7_; clear n0_ n1_ n2_ n3_ n4_ n5_ n6_ n7_; (try clear hb); (try clear hb2); (try clear hk); (try clear hi)) | ((with_reducible refine zaK (N := 15) rfl ?_); (try (refine zbn (by rfl) ?_; dsimp only)); refine zaI ?hg (N := 15) ?hd (cs := #[.int .i64 0, .int .i64 0]) (t := 24) ?hr ?_; (case hd => rfl); (case hg => rfl); (case hr => first | (go_simp; done) | (go_simp; rfl)); intro gb337 hg w96 hbox hb; have n0_ := Aside0.mk (Kd.zbM (Kd.zfk (by (with_reducible repeat (first | apply Kd.zaw | apply Kd.zax | apply Kd.zaE)); exact HO329.out) gb337 (Nat.le_of_eq hg.symm)) hb); have n1_ := Aside0.mk (zaj (g := gb309) (o := .cells #[.slice A0_0 l0_0.length c0_0, .int .i64 a0_1, .int .i64 a0_2] 26 (0, 0)) (by (with_reducible repeat (first | apply zae | apply zai | apply zad)); exact BK309.out) hb); have n2_ := Aside0.mk (zaj (g := gb310) (o := .cells #[.slice A1_0 l1_0.length c1_0, .int .i64 a1_1, .int .i64 a1_2] 26 (0, 0)) (by (with_reducible repeat (first | apply zae | apply zai | apply zad)); exact BK310.out) hb); have n3_ := Aside0.mk (zaj (g := gb318) (o := .cells #[.int .i64 t315, .int .i64 t316] 24 (0, 0)) (by (with_reducible repeat (first | apply zae | apply zai | apply zad)); exact BK318.out) hb); have n4_ := Aside0.mk (zaj (g := gb322) (o := .cells #[.int .i64 t319, .int .i64 t320] 24 (0, 0)) (by (with_reducible repeat (first | apply zae | apply zai | apply zad)); exact BK322.out) hb); have n5_ := Aside0.mk (zaj (g := gb326) (o := .cells #[.int .i64 t323, .int .i64 t324] 24 (0, 0)) (by (with_reducible repeat (first | apply zae | apply zai | apply zad)); exact BK326.out) hb); have n6_ := Aside0.mk (zaj (g := gb333) (o := .cells #[.slice Ao88 t327.length co88, .int .i64 t330, .int .i64 t331] 26 (0, 0)) (by (with_reducible repeat (first | apply zae | apply zai | apply zad)); exact BK333.out) hb); have n7_ := Aside0.mk (zam (by repeat (first | (with_reducible first | exact HB.out | apply zac | apply zaa | apply zaf | refine zab ?_ GE309.out | refine zab ?_ GE310.out | refine zab ?_ GE318.out | refine zab ?_ GE322.out | refine zab ?_ GE326.out | refine zab ?_ GE333.out) | exact HB.out)) hb); have n8_ := Aside0.mk (hbox); have n9_ := Aside0.mk ((by rw [hg]; exact (zao (by repeat (first | (with_reducible first | exact HB.out | apply zac | apply zaa | apply zaf | refine zab ?_ GE309.out | refine zab ?_ GE310.out | refine zab ?_ GE318.out | refine zab ?_ GE322.out | refine zab ?_ GE326.out | refine zab ?_ GE333.out) | exact HB.out))) : w.heap.size ≤ gb337)); have n10_ := n9_; have n11_ := Aside0.mk ((by rw [hg]; exact Nat.ne_of_lt (za3 (g := gb309) (o := .cells #[.slice A0_0 l0_0.length c0_0, .int .i64 a0_1, .int .i64 a0_2] 26 (0, 0)) (by (with_reducible repeat (first | apply zae | apply zai | apply zad)); exact BK309.out)) : gb309 ≠ gb337)); have n12_ := Aside0.mk n11_.out.symm; have n13_ := Aside0.mk ((by rw [hg]; exact Nat.ne_of_lt (za3 (g := gb310) (o := .cells #[.slice A1_0 l1_0.length c1_0, .int .i64 a1_1, .int .i64 a1_2] 26 (0, 0)) (by (with_reducible repeat (first | apply zae | apply zai | apply zad)); exact BK310.out)) : gb310 ≠ gb337)); have n14_ := Aside0.mk n13_.out.symm; have n15_ := Aside0.mk ((by rw [hg]; exact Nat.ne_of_lt (za3 (g := gb318) (o := .cells #[.int .i64 t315, .int .i64 t316] 24 (0, 0)) (by (with_reducible repeat (first | apply zae | apply zai | apply zad)); exact BK318.out)) : gb318 ≠ gb337)); have n16_ := Aside0.mk n15_.out.symm; have n17_ := Aside0.mk ((by rw [hg]; exact Nat.ne_of_lt (za3 (g := gb322) (o := .cells #[.int .i64 t319, .int .i64 t320] 24 (0, 0)) (by (with_reducible repeat (first | apply zae | apply zai | apply zad)); exact BK322.out)) : gb322 ≠ gb337)); have n18_ := Aside0.mk n17_.out.symm; have n19_ := Aside0.mk ((by rw [hg]; exact Nat.ne_of_lt (za3 (g := gb326) (o := .cells #[.int .i64 t323, .int .i64 t324] 24 (0, 0)) (by (with_reducible repeat (first | apply zae | apply zai | apply zad)); exact BK326.out)) : gb326 ≠ gb337)); have n20_ := Aside0.mk n19_.out.symm; have n21_ := Aside0.mk ((by rw [hg]; exact Nat.ne_of_lt (za3 (g := gb333) (o := .cells #[.slice Ao88 t327.length co88, .int .i64 t330, .int .i64 t331] 26 (0, 0)) (by (with_reducible repeat (first | apply zae | apply zai | apply zad)); exact BK333.out)) : gb333 ≠ gb337)); have n22_ := Aside0.mk n21_.out.symm; clear HO329; clear BK309; clear BK310; clear BK318; clear BK322; clear BK326; clear BK333; clear HB; have HO329 := n0_; have BK309 := n1_; have BK310 := n2_; have BK318 := n3_; have BK322 := n4_; have BK326 := n5_; have BK333 := n6_; have HB := n7_; have BK337 := n8_; have GW337 := n9_; have GE337 := n10_; have NB309_337 := n11_; have NB337_309 := n12_; have NB310_337 := n13_; have NB337_310 := n14_; have NB318_337 := n15_; have NB337_318 := n16_; have NB322_337 := n17_; have NB337_322 := n18_; have NB326_337 := n19_; have NB337_326 := n20_; have NB333_337 := n21_; have NB337_333 := n22_; clear n0_ n1_ n2_ n3_ n4_ n5_ n6_ n7_ n8_ n9_ n10_ n11_ n12_ n13_ n14_ n15_ n16_ n17_ n18_ n19_ n20_ n21_ n22_; clear hb hbox hg; have hnb97 := NB337_309.out; have hnc97 := NB309_337.out; have hnb98 := NB337_310.out; have hnc98 := NB310_337.out; have hnb99 := NB337_318.out; have hnc99 := NB318_337.out; have hnb100 := NB337_322.out; have hnc100 := NB322_337.out; have hnb101 := NB337_326.out; have hnc101 := NB326_337.out; have hnb102 := NB337_333.out; have hnc102 := NB333_337.out; have hcz103_0 : w96.cell? ⟨gb337, 0, none⟩ = some (.int .i64 0) := (zak BK337.out 0).trans rfl; have hcz103_1 : w96.cell? ⟨gb337, 1, none⟩ = some (.int .i64 0) := (zak BK337.out 1).trans rfl; have hfz103_0 := zah BK337.out 0; have hfz103_1 := zah BK337.out 1; have hnb104 := NB318_322.out; have hnc104 := NB322_318.out; have hcz105_0 : w96.cell? ⟨gb318, 0, none⟩ = some (.int .i64 t315) := (zak BK318.out 0).trans rfl; have hcz105_1 : w96.cell? ⟨gb318, 1, none⟩ = some (.int .i64 t316) := (zak BK318.out 1).trans rfl; have hfz105_0 := zah BK318.out 0; have hfz105_1 := zah BK318.out 1; have hcz106_0 : w96.cell? ⟨gb326, 0, none⟩ = some (.int .i64 t323) := (zak BK326.out 0).trans rfl; have hcz106_1 : w96.cell? ⟨gb326, 1, none⟩ = some (.int .i64 t324) := (zak BK326.out 1).trans rfl; have hfz106_0 := zah BK326.out 0; have hfz106_1 := zah BK326.out 1) | ((with_reducible refine zat (f := 26) rfl ?_); refine za9 (some 78) rfl rfl Tryd.func26 (by kernel_rfl) rfl #[.int .i64 0, .agg #[.int .i64 t315, .int .i64 t316], .agg #[.int .i64 t323, .int .i64 t324]] rfl (by (try simp only [List.map_toArray, List.map_cons, List.map_nil]); first | done | rfl | (simp only [List.length_drop, List.length_take]; rfl)) ?_; (with_reducible refine (za2.calls 0 t315 t316 t323 t324 t338 t339 t340 _ A69.out).mono ?_); rintro e w107 ⟨rfl, hb⟩; refine ⟨_, rfl, ?_⟩; have n0_ := Aside0.mk (Kd.zbM (by (with_reducible repeat (first | apply Kd.zaw | apply Kd.zax | apply Kd.zaE)); exact (Kd.zbj (Kd.zbN (p := ⟨gb337, 1, none⟩) (Kd.zbN (p := ⟨gb337, 0, none⟩) (Kd.zbj HO329.out (fun k_ hk => (⟨hk, hk.2⟩ : _ ∧ k_ ≠ gb337))) (fun _ hk => hk.2) (.int .i64 t334)) (fun _ hk => hk.2) (.int .i64 t335)) (fun _ h_ => h_.1))) hb); have n1_ := Aside0.mk (zaj (g := gb309) (o := .cells #[.slice A0_0 l0_0.length c0_0, .int .i64 a0_1, .int .i64 a0_2] 26 (0, 0)) (by (repeat (first | (with_reducible first | apply zae | apply zai | apply zad) | refine zaA ?_ NB309_337.out _)); exact BK309.out) hb); have n2_ := Aside0.mk (zaj (g := gb310) (o := .cells #[.slice A1_0 l1_0.length c1_0, .int .i64 a1_1, .int .i64 a1_2] 26 (0, 0)) (by (repeat (first | (with_reducible first | apply zae | apply zai | apply zad) | refine zaA ?_ NB310_337.out _)); exact BK310.out) hb); have n3_ := Aside0.mk (zaj (g := gb318) (o := .cells #[.int .i64 t315, .int .i64 t316] 24 (0, 0)) (by (repeat (first | (with_reducible first | apply zae | apply zai | apply zad) | refine zaA ?_ NB318_337.out _)); exact BK318.out) hb); have n4_ := Aside0.mk (zaj (g := gb322) (o := .cells #[.int .i64 t319, .int .i64 t320] 24 (0, 0)) (by (repeat (first | (with_reducible first | apply zae | apply zai | apply zad) | refine zaA ?_ NB322_337.out _)); exact BK322.out) hb); have n5_ := Aside0.mk (zaj (g := gb326) (o := .cells #[.int .i64 t323, .int .i64 t324] 24 (0, 0)) (by (repeat (first | (with_reducible first | apply zae | apply zai | apply zad) | refine zaA ?_ NB326_337.out _)); exact BK326.out) hb); have n6_ := Aside0.mk (zaj (g := gb333) (o := .cells #[.slice Ao88 t327.length co88, .int .i64 t330, .int .i64 t331] 26 (0, 0)) (by (repeat (first | (with_reducible first | apply zae | apply zai | apply zad) | refine zaA ?_ NB333_337.out _)); exact BK333.out) hb); have n7_ := Aside0.mk (zaj (g := gb337) (o := .cells #[.int .i64 t334, .int .i64 t335] 24 (0, 0)) (by (with_reducible repeat (first | apply zae | apply zai | apply zad)); refine zay (cs := #[.int .i64 t334, .int .i64 0]) ?_ 1 _ rfl; (with_reducible repeat (first | apply zae | apply zai | apply zad)); refine zay (cs := #[.int .i64 0, .int .i64 0]) ?_ 0 _ rfl; (with_reducible repeat (first | apply zae | apply zai | apply zad)); exact BK337.out) hb); have n8_ := Aside0.mk (zam (by repeat (first | (with_reducible first | exact HB.out | apply zac | apply zaa | apply zaf | refine zab ?_ GE309.out | refine zab ?_ GE310.out | refine zab ?_ GE318.out | refine zab ?_ GE322.out | refine zab ?_ GE326.out | refine zab ?_ GE333.out | refine zab ?_ GE337.out) | exact HB.out)) hb); clear HO329; clear BK309; clear BK310; clear BK318; clear BK322; clear BK326; clear BK333; clear BK337; clear HB; have HO329 := n0_; have BK309 := n1_; have BK310 := n2_; have BK318 := n3_; have BK322 := n4_; have BK326 := n5_; have BK333 := n6_; have BK337 := n7_; have HB := n8_; clear n0_ n1_ n2_ n3_ n4_ n5_ n6_ n7_ n8_; (try clear hb); (try clear hb2); (try clear hk); (try clear hi)) | ((with_reducible refine zaK (N := 17) rfl ?_); (try (refine zbn (by rfl) ?_; dsimp only)); refine zaI ?hg (N := 17) ?hd (cs := #[.int .i64 0, .int .i64 0]) (t := 24) ?hr ?_; (case hd => rfl); (case hg => rfl); (case hr => first | (go_simp; done) | (go_simp; rfl)); intro gb341 hg w108 hbox hb; have n0_ := Aside0.mk (Kd.zbM (Kd.zfk (by (with_reducible repeat (first | apply Kd.zaw | apply Kd.zax | apply Kd.zaE)); exact HO329.out) gb341 (Nat.le_of_eq hg.symm)) hb); have n1_ := Aside0.mk (zaj (g := gb309) (o := .cells #[.slice A0_0 l0_0.length c0_0, .int .i64 a0_1, .int .i64 a0_2] 26 (0, 0)) (by (with_reducible repeat (first | apply zae | apply zai | apply zad)); exact BK309.out) hb); have n2_ := Aside0.mk (zaj (g := gb310) (o := .cells #[.slice A1_0 l1_0.length c1_0, .int .i64 a1_1, .int .i64 a1_2] 26 (0, 0)) (by (with_reducible repeat (first | apply zae | apply zai | apply zad)); exact BK310.out) hb); have n3_ := Aside0.mk (zaj (g := gb318) (o := .cells #[.int .i64 t315, .int .i64 t316] 24 (0, 0)) (by (with_reducible repeat (first | apply zae | apply zai | apply zad)); exact BK318.out) hb); have n4_ := Aside0.mk (zaj (g := gb322) (o := .cells #[.int .i64 t319, .int .i64 t320] 24 (0, 0)) (by (with_reducible repeat (first | apply zae | apply zai | apply zad)); exact BK322.out) hb); have n5_ := Aside0.mk (zaj (g := gb326) (o := .cells #[.int .i64 t323, .int .i64 t324] 24 (0, 0)) (by (with_reducible repeat (first | apply zae | apply zai | apply zad)); exact BK326.out) hb); have n6_ := Aside0.mk (zaj (g := gb333) (o := .cells #[.slice Ao88 t327.length co88, .int .i64 t330, .int .i64 t331] 26 (0, 0)) (by (with_reducible repeat (first | apply zae | apply zai | apply zad)); exact BK333.out) hb); have n7_ := Aside0.mk (zaj (g := gb337) (o := .cells #[.int .i64 t334, .int .i64 t335] 24 (0, 0)) (by (with_reducible repeat (first | apply zae | apply zai | apply zad)); exact BK337.out) hb); have n8_ := Aside0.mk (zam (by repeat (first | (with_reducible first | exact HB.out | apply zac | apply zaa | apply zaf | refine zab ?_ GE309.out | refine zab ?_ GE310.out | refine zab ?_ GE318.out | refine zab ?_ GE322.out | refine zab ?_ GE326.out | refine zab ?_ GE333.out | refine zab ?_ GE337.out) | exact HB.out)) hb); have n9_ := Aside0.mk (hbox); have n10_ := Aside0.mk ((by rw [hg]; exact (zao (by repeat (first | (with_reducible first | exact HB.out | apply zac | apply zaa | apply zaf | refine zab ?_ GE309.out | refine zab ?_ GE310.out | refine zab ?_ GE318.out | refine zab ?_ GE322.out | refine zab ?_ GE326.out | refine zab ?_ GE333.out | refine zab ?_ GE337.out) | exact HB.out))) : w.heap.size ≤ gb341)); have n11_ := n10_; have n12_ := Aside0.mk ((by rw [hg]; exact Nat.ne_of_lt (za3 (g := gb309) (o := .cells #[.slice A0_0 l0_0.length c0_0, .int .i64 a0_1, .int .i64 a0_2] 26 (0, 0)) (by (with_reducible repeat (first | apply zae | apply zai | apply zad)); exact BK309.out)) : gb309 ≠ gb341)); have n13_ := Aside0.mk n12_.out.symm; have n14_ := Aside0.mk ((by rw [hg]; exact Nat.ne_of_lt (za3 (g := gb310) (o := .cells #[.slice A1_0 l1_0.length c1_0, .int .i64 a1_1, .int .i64 a1_2] 26 (0, 0)) (by (with_reducible repeat (first | apply zae | apply zai | apply zad)); exact BK310.out)) : gb310 ≠ gb341)); have n15_ := Aside0.mk n14_.out.symm; have n16_ := Aside0.mk ((by rw [hg]; exact Nat.ne_of_lt (za3 (g := gb318) (o := .cells #[.int .i64 t315, .int .i64 t316] 24 (0, 0)) (by (with_reducible repeat (first | apply zae | apply zai | apply zad)); exact BK318.out)) : gb318 ≠ gb341)); have n17_ := Aside0.mk n16_.out.symm; have n18_ := Aside0.mk ((by rw [hg]; exact Nat.ne_of_lt (za3 (g := gb322) (o := .cells #[.int .i64 t319, .int .i64 t320] 24 (0, 0)) (by (with_reducible repeat (first | apply zae | apply zai | apply zad)); exact BK322.out)) : gb322 ≠ gb341)); have n19_ := Aside0.mk n18_.out.symm; have n20_ := Aside0.mk ((by rw [hg]; exact Nat.ne_of_lt (za3 (g := gb326) (o := .cells #[.int .i64 t323, .int .i64 t324] 24 (0, 0)) (by (with_reducible repeat (first | apply zae | apply zai | apply zad)); exact BK326.out)) : gb326 ≠ gb341)); have n21_ := Aside0.mk n20_.out.symm; have n22_ := Aside0.mk ((by rw [hg]; exact Nat.ne_of_lt (za3 (g := gb333) (o := .cells #[.slice Ao88 t327.length co88, .int .i64 t330, .int .i64 t331] 26 (0, 0)) (by (with_reducible repeat (first | apply zae | apply zai | apply zad)); exact BK333.out)) : gb333 ≠ gb341)); have n23_ := Aside0.mk n22_.out.symm; have n24_ := Aside0.mk ((by rw [hg]; exact Nat.ne_of_lt (za3 (g := gb337) (o := .cells #[.int .i64 t334, .int .i64 t335] 24 (0, 0)) (by (with_reducible repeat (first | apply zae | apply zai | apply zad)); exact BK337.out)) : gb337 ≠ gb341)); have n25_ := Aside0.mk n24_.out.symm; clear HO329; clear BK309; clear BK310; clear BK318; clear BK322; clear BK326; clear BK333; clear BK337; clear HB; have HO329 := n0_; have BK309 := n1_; have BK310 := n2_; have BK318 := n3_; have BK322 := n4_; have BK326 := n5_; have BK333 := n6_; have BK337 := n7_; have HB := n8_; have BK341 := n9_; have GW341 := n10_; have GE341 := n11_; have NB309_341 := n12_; have NB341_309 := n13_; have NB310_341 := n14_; have NB341_310 := n15_; have NB318_341 := n16_; have NB341_318 := n17_; have NB322_341 := n18_; have NB341_322 := n19_; have NB326_341 := n20_; have NB341_326 := n21_; have NB333_341 := n22_; have NB341_333 := n23_; have NB337_341 := n24_; have NB341_337 := n25_; clear n0_ n1_ n2_ n3_ n4_ n5_ n6_ n7_ n8_ n9_ n10_ n11_ n12_ n13_ n14_ n15_ n16_ n17_ n18_ n19_ n20_ n21_ n22_ n23_ n24_ n25_; clear hb hbox hg; have hnb109 := NB341_309.out; have hnc109 := NB309_341.out; have hnb110 := NB341_310.out; have hnc110 := NB310_341.out; have hnb111 := NB341_318.out; have hnc111 := NB318_341.out; have hnb112 := NB341_322.out; have hnc112 := NB322_341.out; have hnb113 := NB341_326.out; have hnc113 := NB326_341.out; have hnb114 := NB341_333.out; have hnc114 := NB333_341.out; have hnb115 := NB341_337.out; have hnc115 := NB337_341.out; have hcz116_0 : w108.cell? ⟨gb341, 0, none⟩ = some (.int .i64 0) := (zak BK341.out 0).trans rfl; have hcz116_1 : w108.cell? ⟨gb341, 1, none⟩ = some (.int .i64 0) := (zak BK341.out 1).trans rfl; have hfz116_0 := zah BK341.out 0; have hfz116_1 := zah BK341.out 1))
       (try simp only [Act.put, List.setIfInBounds_toArray, List.set_cons_zero, List.set_cons_succ])
       go_cut [6] (fun v6 wc => ∃ (kq : Nat) (x6_69 : Bool), v6 = .bool x6_69 ∧ Aside0 (zal.j2 kq x6_69 = some r) ∧ Aside0 (kq ≤ kj34) ∧ Aside0 (Kd.R k24 24 wc w.heap.size (fun k_ => k_ ≠ gb318 ∧ k_ ≠ gb322 ∧ k_ ≠ gb326 ∧ k_ ≠ gb337 ∧ k_ ≠ gb341) (.slice Ao88 t327.length co88) t327) ∧ Aside0 (wc.heap[gb309]? = some (.cells #[(.slice A0_0 l0_0.length c0_0), .int .i64 a0_1, .int .i64 a0_2] 26 (0, 0))) ∧ Aside0 (wc.heap[gb310]? = some (.cells #[(.slice A1_0 l1_0.length c1_0), .int .i64 a1_1, .int .i64 a1_2] 26 (0, 0))) ∧ Aside0 (wc.heap[gb318]? = some (.cells #[.int .i64 t315, .int .i64 t316] 24 (0, 0))) ∧ Aside0 (wc.heap[gb322]? = some (.cells #[.int .i64 t319, .int .i64 t320] 24 (0, 0))) ∧ Aside0 (wc.heap[gb326]? = some (.cells #[.int .i64 t323, .int .i64 t324] 24 (0, 0))) ∧ Aside0 (wc.heap[gb333]? = some (.cells #[(.slice Ao88 t327.length co88), .int .i64 t330, .int .i64 t331] 26 (0, 0))) ∧ Aside0 (wc.heap[gb337]? = some (.cells #[.int .i64 t334, .int .i64 t335] 24 (0, 0))) ∧ Aside0 (wc.heap[gb341]? = some (.cells #[.int .i64 t338, .int .i64 t339] 24 (0, 0))) ∧ Aside0 (Below w.heap.size w wc))
       case first =>
        have H := HC70.out
        clear HC70
        by_cases c117 : t317 = 0
        ·rw [if_pos c117] at H
         have c117b0 : (t317 == 0) = true := beq_iff_eq.mpr c117
         have c117b1 : (t317 != 0) = false := bne_eq_false_iff_eq.mpr c117
         clear c117
         (first | rw [c117b0] | (simp only [zaL, zaN]; rw [c117b0]) | skip)
         by_cases c118 : t325 = 0
         ·rw [if_pos c118] at H
          have c118b0 : (t325 == 0) = true := beq_iff_eq.mpr c118
          have c118b1 : (t325 != 0) = false := bne_eq_false_iff_eq.mpr c118
          clear c118
          by_cases c119 : t332 = 0
          ·rw [if_pos c119] at H
           have c119b0 : (t332 == 0) = true := beq_iff_eq.mpr c119
           have c119b1 : (t332 != 0) = false := bne_eq_false_iff_eq.mpr c119
           clear c119
           by_cases c120 : t336 = 0
           ·rw [if_pos c120] at H
            have c120b0 : (t336 == 0) = true := beq_iff_eq.mpr c120
            have c120b1 : (t336 != 0) = false := bne_eq_false_iff_eq.mpr c120
            clear c120
            by_cases c121 : t340 = 0
            ·rw [if_pos c121] at H
             have c121b0 : (t340 == 0) = true := beq_iff_eq.mpr c121
             have c121b1 : (t340 != 0) = false := bne_eq_false_iff_eq.mpr c121
             clear c121
             have H' := Aside0.mk H
             clear H
             have hnb122 := NB337_309.out
             have hnc122 := NB309_337.out
             have hnb123 := NB337_310.out
             have hnc123 := NB310_337.out
             have hnb124 := NB337_318.out
             have hnc124 := NB318_337.out
             have hnb125 := NB337_322.out
             have hnc125 := NB322_337.out
             have hnb126 := NB337_326.out
             have hnc126 := NB326_337.out
             have hnb127 := NB337_333.out
             have hnc127 := NB333_337.out
             have hnb128 := NB337_341.out
             have hnc128 := NB341_337.out
             have hcz129_0 : w108.cell? ⟨gb337, 0, none⟩ = some (.int .i64 t334) := (zak BK337.out 0).trans rfl
             have hcz129_1 : w108.cell? ⟨gb337, 1, none⟩ = some (.int .i64 t335) := (zak BK337.out 1).trans rfl
             have hfz129_0 := zah BK337.out 0
             have hfz129_1 := zah BK337.out 1
             have hnb130 := NB341_309.out
             have hnc130 := NB309_341.out
             have hnb131 := NB341_310.out
             have hnc131 := NB310_341.out
             have hnb132 := NB341_318.out
             have hnc132 := NB318_341.out
             have hnb133 := NB341_322.out
             have hnc133 := NB322_341.out
             have hnb134 := NB341_326.out
             have hnc134 := NB326_341.out
             have hnb135 := NB341_333.out
             have hnc135 := NB333_341.out
             have hcz136_0 : w108.cell? ⟨gb341, 0, none⟩ = some (.int .i64 0) := (zak BK341.out 0).trans rfl
             have hcz136_1 : w108.cell? ⟨gb341, 1, none⟩ = some (.int .i64 0) := (zak BK341.out 1).trans rfl
             have hfz136_0 := zah BK341.out 0
             have hfz136_1 := zah BK341.out 1
             go_wp2
             go_meet
             case rel => exact ⟨_, ((t334 == t338 && (t335 == t339))), (by first | rfl | (simp; done) | (simp [*]; done)), H', ⟨by have := HJ3.out; have := HJ34.out; first | omega | exact Nat.le_refl _⟩, ⟨by (with_reducible repeat (first | apply Kd.zaw | apply Kd.zax | apply Kd.zaE)); exact Kd.zbj (Kd.zbN (p := ⟨gb341, 1, none⟩) (Kd.zbN (p := ⟨gb341, 0, none⟩) (Kd.zbj HO329.out (fun k_ hk => (⟨hk, hk.2⟩ : _ ∧ k_ ≠ gb341))) (fun _ hk => hk.2) (.int .i64 t338)) (fun _ hk => hk.2) (.int .i64 t339)) (fun _ hk => ⟨hk.1.1.1.1.1.2, ⟨hk.1.1.1.1.2, ⟨hk.1.1.1.2, ⟨hk.1.1.2, hk.1.2⟩⟩⟩⟩)⟩, ⟨by (repeat (first | (with_reducible first | apply zae | apply zai | apply zad) | refine zaA ?_ NB309_341.out _)); exact BK309.out⟩, ⟨by (repeat (first | (with_reducible first | apply zae | apply zai | apply zad) | refine zaA ?_ NB310_341.out _)); exact BK310.out⟩, ⟨by (repeat (first | (with_reducible first | apply zae | apply zai | apply zad) | refine zaA ?_ NB318_341.out _)); exact BK318.out⟩, ⟨by (repeat (first | (with_reducible first | apply zae | apply zai | apply zad) | refine zaA ?_ NB322_341.out _)); exact BK322.out⟩, ⟨by (repeat (first | (with_reducible first | apply zae | apply zai | apply zad) | refine zaA ?_ NB326_341.out _)); exact BK326.out⟩, ⟨by (repeat (first | (with_reducible first | apply zae | apply zai | apply zad) | refine zaA ?_ NB333_341.out _)); exact BK333.out⟩, ⟨by (repeat (first | (with_reducible first | apply zae | apply zai | apply zad) | refine zaA ?_ NB337_341.out _)); exact BK337.out⟩, ⟨by (with_reducible repeat (first | apply zae | apply zai | apply zad)); refine zay (cs := #[.int .i64 t338, .int .i64 0]) ?_ 1 _ rfl; (with_reducible repeat (first | apply zae | apply zai | apply zad)); refine zay (cs := #[.int .i64 0, .int .i64 0]) ?_ 0 _ rfl; (with_reducible repeat (first | apply zae | apply zai | apply zad)); exact BK341.out⟩, ⟨by repeat (first | (with_reducible first | exact HB.out | apply zac | apply zaa | apply zaf | refine zab ?_ GE309.out | refine zab ?_ GE310.out | refine zab ?_ GE318.out | refine zab ?_ GE322.out | refine zab ?_ GE326.out | refine zab ?_ GE333.out | refine zab ?_ GE337.out | refine zab ?_ GE341.out) | exact HB.out)⟩⟩
            ·rw [if_neg c121] at H
             have c121b0 : (t340 == 0) = false := beq_eq_false_iff_ne.mpr c121
             have c121b1 : (t340 != 0) = true := bne_iff_ne.mpr c121
             have H' := Aside0.mk H
             clear H
             go_wp2
             go_meet
             case rel => exact ⟨_, (true), (by first | rfl | (simp; done) | (simp [*]; done)), H', ⟨by have := HJ3.out; have := HJ34.out; first | omega | exact Nat.le_refl _⟩, ⟨by (with_reducible repeat (first | apply Kd.zaw | apply Kd.zax | apply Kd.zaE)); exact Kd.zbj (Kd.zbN (p := ⟨gb341, 1, none⟩) (Kd.zbN (p := ⟨gb341, 0, none⟩) (Kd.zbj HO329.out (fun k_ hk => (⟨hk, hk.2⟩ : _ ∧ k_ ≠ gb341))) (fun _ hk => hk.2) (.int .i64 t338)) (fun _ hk => hk.2) (.int .i64 t339)) (fun _ hk => ⟨hk.1.1.1.1.1.2, ⟨hk.1.1.1.1.2, ⟨hk.1.1.1.2, ⟨hk.1.1.2, hk.1.2⟩⟩⟩⟩)⟩, ⟨by (repeat (first | (with_reducible first | apply zae | apply zai | apply zad) | refine zaA ?_ NB309_341.out _)); exact BK309.out⟩, ⟨by (repeat (first | (with_reducible first | apply zae | apply zai | apply zad) | refine zaA ?_ NB310_341.out _)); exact BK310.out⟩, ⟨by (repeat (first | (with_reducible first | apply zae | apply zai | apply zad) | refine zaA ?_ NB318_341.out _)); exact BK318.out⟩, ⟨by (repeat (first | (with_reducible first | apply zae | apply zai | apply zad) | refine zaA ?_ NB322_341.out _)); exact BK322.out⟩, ⟨by (repeat (first | (with_reducible first | apply zae | apply zai | apply zad) | refine zaA ?_ NB326_341.out _)); exact BK326.out⟩, ⟨by (repeat (first | (with_reducible first | apply zae | apply zai | apply zad) | refine zaA ?_ NB333_341.out _)); exact BK333.out⟩, ⟨by (repeat (first | (with_reducible first | apply zae | apply zai | apply zad) | refine zaA ?_ NB337_341.out _)); exact BK337.out⟩, ⟨by (with_reducible repeat (first | apply zae | apply zai | apply zad)); refine zay (cs := #[.int .i64 t338, .int .i64 0]) ?_ 1 _ rfl; (with_reducible repeat (first | apply zae | apply zai | apply zad)); refine zay (cs := #[.int .i64 0, .int .i64 0]) ?_ 0 _ rfl; (with_reducible repeat (first | apply zae | apply zai | apply zad)); exact BK341.out⟩, ⟨by repeat (first | (with_reducible first | exact HB.out | apply zac | apply zaa | apply zaf | refine zab ?_ GE309.out | refine zab ?_ GE310.out | refine zab ?_ GE318.out | refine zab ?_ GE322.out | refine zab ?_ GE326.out | refine zab ?_ GE333.out | refine zab ?_ GE337.out | refine zab ?_ GE341.out) | exact HB.out)⟩⟩
           ·rw [if_neg c120] at H
            have c120b0 : (t336 == 0) = false := beq_eq_false_iff_ne.mpr c120
            have c120b1 : (t336 != 0) = true := bne_iff_ne.mpr c120
            have H' := Aside0.mk H
            clear H
            go_wp2
            go_meet
            case rel => exact ⟨_, (true), (by first | rfl | (simp; done) | (simp [*]; done)), H', ⟨by have := HJ3.out; have := HJ34.out; first | omega | exact Nat.le_refl _⟩, ⟨by (with_reducible repeat (first | apply Kd.zaw | apply Kd.zax | apply Kd.zaE)); exact Kd.zbj (Kd.zbN (p := ⟨gb341, 1, none⟩) (Kd.zbN (p := ⟨gb341, 0, none⟩) (Kd.zbj HO329.out (fun k_ hk => (⟨hk, hk.2⟩ : _ ∧ k_ ≠ gb341))) (fun _ hk => hk.2) (.int .i64 t338)) (fun _ hk => hk.2) (.int .i64 t339)) (fun _ hk => ⟨hk.1.1.1.1.1.2, ⟨hk.1.1.1.1.2, ⟨hk.1.1.1.2, ⟨hk.1.1.2, hk.1.2⟩⟩⟩⟩)⟩, ⟨by (repeat (first | (with_reducible first | apply zae | apply zai | apply zad) | refine zaA ?_ NB309_341.out _)); exact BK309.out⟩, ⟨by (repeat (first | (with_reducible first | apply zae | apply zai | apply zad) | refine zaA ?_ NB310_341.out _)); exact BK310.out⟩, ⟨by (repeat (first | (with_reducible first | apply zae | apply zai | apply zad) | refine zaA ?_ NB318_341.out _)); exact BK318.out⟩, ⟨by (repeat (first | (with_reducible first | apply zae | apply zai | apply zad) | refine zaA ?_ NB322_341.out _)); exact BK322.out⟩, ⟨by (repeat (first | (with_reducible first | apply zae | apply zai | apply zad) | refine zaA ?_ NB326_341.out _)); exact BK326.out⟩, ⟨by (repeat (first | (with_reducible first | apply zae | apply zai | apply zad) | refine zaA ?_ NB333_341.out _)); exact BK333.out⟩, ⟨by (repeat (first | (with_reducible first | apply zae | apply zai | apply zad) | refine zaA ?_ NB337_341.out _)); exact BK337.out⟩, ⟨by (with_reducible repeat (first | apply zae | apply zai | apply zad)); refine zay (cs := #[.int .i64 t338, .int .i64 0]) ?_ 1 _ rfl; (with_reducible repeat (first | apply zae | apply zai | apply zad)); refine zay (cs := #[.int .i64 0, .int .i64 0]) ?_ 0 _ rfl; (with_reducible repeat (first | apply zae | apply zai | apply zad)); exact BK341.out⟩, ⟨by repeat (first | (with_reducible first | exact HB.out | apply zac | apply zaa | apply zaf | refine zab ?_ GE309.out | refine zab ?_ GE310.out | refine zab ?_ GE318.out | refine zab ?_ GE322.out | refine zab ?_ GE326.out | refine zab ?_ GE333.out | refine zab ?_ GE337.out | refine zab ?_ GE341.out) | exact HB.out)⟩⟩
          ·rw [if_neg c119] at H
           have c119b0 : (t332 == 0) = false := beq_eq_false_iff_ne.mpr c119
           have c119b1 : (t332 != 0) = true := bne_iff_ne.mpr c119
           have H' := Aside0.mk H
           clear H
           go_wp2
           go_meet
           case rel => exact ⟨_, (true), (by first | rfl | (simp; done) | (simp [*]; done)), H', ⟨by have := HJ3.out; have := HJ34.out; first | omega | exact Nat.le_refl _⟩, ⟨by (with_reducible repeat (first | apply Kd.zaw | apply Kd.zax | apply Kd.zaE)); exact Kd.zbj (Kd.zbN (p := ⟨gb341, 1, none⟩) (Kd.zbN (p := ⟨gb341, 0, none⟩) (Kd.zbj HO329.out (fun k_ hk => (⟨hk, hk.2⟩ : _ ∧ k_ ≠ gb341))) (fun _ hk => hk.2) (.int .i64 t338)) (fun _ hk => hk.2) (.int .i64 t339)) (fun _ hk => ⟨hk.1.1.1.1.1.2, ⟨hk.1.1.1.1.2, ⟨hk.1.1.1.2, ⟨hk.1.1.2, hk.1.2⟩⟩⟩⟩)⟩, ⟨by (repeat (first | (with_reducible first | apply zae | apply zai | apply zad) | refine zaA ?_ NB309_341.out _)); exact BK309.out⟩, ⟨by (repeat (first | (with_reducible first | apply zae | apply zai | apply zad) | refine zaA ?_ NB310_341.out _)); exact BK310.out⟩, ⟨by (repeat (first | (with_reducible first | apply zae | apply zai | apply zad) | refine zaA ?_ NB318_341.out _)); exact BK318.out⟩, ⟨by (repeat (first | (with_reducible first | apply zae | apply zai | apply zad) | refine zaA ?_ NB322_341.out _)); exact BK322.out⟩, ⟨by (repeat (first | (with_reducible first | apply zae | apply zai | apply zad) | refine zaA ?_ NB326_341.out _)); exact BK326.out⟩, ⟨by (repeat (first | (with_reducible first | apply zae | apply zai | apply zad) | refine zaA ?_ NB333_341.out _)); exact BK333.out⟩, ⟨by (repeat (first | (with_reducible first | apply zae | apply zai | apply zad) | refine zaA ?_ NB337_341.out _)); exact BK337.out⟩, ⟨by (with_reducible repeat (first | apply zae | apply zai | apply zad)); refine zay (cs := #[.int .i64 t338, .int .i64 0]) ?_ 1 _ rfl; (with_reducible repeat (first | apply zae | apply zai | apply zad)); refine zay (cs := #[.int .i64 0, .int .i64 0]) ?_ 0 _ rfl; (with_reducible repeat (first | apply zae | apply zai | apply zad)); exact BK341.out⟩, ⟨by repeat (first | (with_reducible first | exact HB.out | apply zac | apply zaa | apply zaf | refine zab ?_ GE309.out | refine zab ?_ GE310.out | refine zab ?_ GE318.out | refine zab ?_ GE322.out | refine zab ?_ GE326.out | refine zab ?_ GE333.out | refine zab ?_ GE337.out | refine zab ?_ GE341.out) | exact HB.out)⟩⟩
         ·rw [if_neg c118] at H
          have c118b0 : (t325 == 0) = false := beq_eq_false_iff_ne.mpr c118
          have c118b1 : (t325 != 0) = true := bne_iff_ne.mpr c118
          have H' := Aside0.mk H
          clear H
          go_wp2
          go_meet
          case rel => exact ⟨_, (true), (by first | rfl | (simp; done) | (simp [*]; done)), H', ⟨by have := HJ3.out; have := HJ34.out; first | omega | exact Nat.le_refl _⟩, ⟨by (with_reducible repeat (first | apply Kd.zaw | apply Kd.zax | apply Kd.zaE)); exact Kd.zbj (Kd.zbN (p := ⟨gb341, 1, none⟩) (Kd.zbN (p := ⟨gb341, 0, none⟩) (Kd.zbj HO329.out (fun k_ hk => (⟨hk, hk.2⟩ : _ ∧ k_ ≠ gb341))) (fun _ hk => hk.2) (.int .i64 t338)) (fun _ hk => hk.2) (.int .i64 t339)) (fun _ hk => ⟨hk.1.1.1.1.1.2, ⟨hk.1.1.1.1.2, ⟨hk.1.1.1.2, ⟨hk.1.1.2, hk.1.2⟩⟩⟩⟩)⟩, ⟨by (repeat (first | (with_reducible first | apply zae | apply zai | apply zad) | refine zaA ?_ NB309_341.out _)); exact BK309.out⟩, ⟨by (repeat (first | (with_reducible first | apply zae | apply zai | apply zad) | refine zaA ?_ NB310_341.out _)); exact BK310.out⟩, ⟨by (repeat (first | (with_reducible first | apply zae | apply zai | apply zad) | refine zaA ?_ NB318_341.out _)); exact BK318.out⟩, ⟨by (repeat (first | (with_reducible first | apply zae | apply zai | apply zad) | refine zaA ?_ NB322_341.out _)); exact BK322.out⟩, ⟨by (repeat (first | (with_reducible first | apply zae | apply zai | apply zad) | refine zaA ?_ NB326_341.out _)); exact BK326.out⟩, ⟨by (repeat (first | (with_reducible first | apply zae | apply zai | apply zad) | refine zaA ?_ NB333_341.out _)); exact BK333.out⟩, ⟨by (repeat (first | (with_reducible first | apply zae | apply zai | apply zad) | refine zaA ?_ NB337_341.out _)); exact BK337.out⟩, ⟨by (with_reducible repeat (first | apply zae | apply zai | apply zad)); refine zay (cs := #[.int .i64 t338, .int .i64 0]) ?_ 1 _ rfl; (with_reducible repeat (first | apply zae | apply zai | apply zad)); refine zay (cs := #[.int .i64 0, .int .i64 0]) ?_ 0 _ rfl; (with_reducible repeat (first | apply zae | apply zai | apply zad)); exact BK341.out⟩, ⟨by repeat (first | (with_reducible first | exact HB.out | apply zac | apply zaa | apply zaf | refine zab ?_ GE309.out | refine zab ?_ GE310.out | refine zab ?_ GE318.out | refine zab ?_ GE322.out | refine zab ?_ GE326.out | refine zab ?_ GE333.out | refine zab ?_ GE337.out | refine zab ?_ GE341.out) | exact HB.out)⟩⟩
        ·rw [if_neg c117] at H
         have c117b0 : (t317 == 0) = false := beq_eq_false_iff_ne.mpr c117
         have c117b1 : (t317 != 0) = true := bne_iff_ne.mpr c117
         (first | rw [c117b0] | (simp only [zaL, zaN]; rw [c117b0]) | skip)
         have H' := Aside0.mk H
         clear H
         go_wp2
         go_meet
         case rel => exact ⟨_, (true), (by first | rfl | (simp; done) | (simp [*]; done)), H', ⟨by have := HJ3.out; have := HJ34.out; first | omega | exact Nat.le_refl _⟩, ⟨by (with_reducible repeat (first | apply Kd.zaw | apply Kd.zax | apply Kd.zaE)); exact Kd.zbj (Kd.zbN (p := ⟨gb341, 1, none⟩) (Kd.zbN (p := ⟨gb341, 0, none⟩) (Kd.zbj HO329.out (fun k_ hk => (⟨hk, hk.2⟩ : _ ∧ k_ ≠ gb341))) (fun _ hk => hk.2) (.int .i64 t338)) (fun _ hk => hk.2) (.int .i64 t339)) (fun _ hk => ⟨hk.1.1.1.1.1.2, ⟨hk.1.1.1.1.2, ⟨hk.1.1.1.2, ⟨hk.1.1.2, hk.1.2⟩⟩⟩⟩)⟩, ⟨by (repeat (first | (with_reducible first | apply zae | apply zai | apply zad) | refine zaA ?_ NB309_341.out _)); exact BK309.out⟩, ⟨by (repeat (first | (with_reducible first | apply zae | apply zai | apply zad) | refine zaA ?_ NB310_341.out _)); exact BK310.out⟩, ⟨by (repeat (first | (with_reducible first | apply zae | apply zai | apply zad) | refine zaA ?_ NB318_341.out _)); exact BK318.out⟩, ⟨by (repeat (first | (with_reducible first | apply zae | apply zai | apply zad) | refine zaA ?_ NB322_341.out _)); exact BK322.out⟩, ⟨by (repeat (first | (with_reducible first | apply zae | apply zai | apply zad) | refine zaA ?_ NB326_341.out _)); exact BK326.out⟩, ⟨by (repeat (first | (with_reducible first | apply zae | apply zai | apply zad) | refine zaA ?_ NB333_341.out _)); exact BK333.out⟩, ⟨by (repeat (first | (with_reducible first | apply zae | apply zai | apply zad) | refine zaA ?_ NB337_341.out _)); exact BK337.out⟩, ⟨by (with_reducible repeat (first | apply zae | apply zai | apply zad)); refine zay (cs := #[.int .i64 t338, .int .i64 0]) ?_ 1 _ rfl; (with_reducible repeat (first | apply zae | apply zai | apply zad)); refine zay (cs := #[.int .i64 0, .int .i64 0]) ?_ 0 _ rfl; (with_reducible repeat (first | apply zae | apply zai | apply zad)); exact BK341.out⟩, ⟨by repeat (first | (with_reducible first | exact HB.out | apply zac | apply zaa | apply zaf | refine zab ?_ GE309.out | refine zab ?_ GE310.out | refine zab ?_ GE318.out | refine zab ?_ GE322.out | refine zab ?_ GE326.out | refine zab ?_ GE333.out | refine zab ?_ GE337.out | refine zab ?_ GE341.out) | exact HB.out)⟩⟩
       case rest =>
        clear HC70
        (try clear c1); (try clear c2); (try clear p2); (try clear c3); (try clear c4); (try clear c5); (try clear c6); (try clear c7); (try clear c8); (try clear c9); (try clear c10); (try clear c11); (try clear c12); (try clear c13); (try clear c14); (try clear c19); (try clear c20); (try clear c24); (try clear c25); (try clear c26); (try clear c30); (try clear c36); (try clear c40); (try clear c41); (try clear c46); (try clear c47); (try clear c48); (try clear c50); (try clear c50b0); (try clear c51); (try clear c52); (try clear c53); (try clear c55); (try clear c56); (try clear c58); (try clear c59); (try clear c60); (try clear c62); (try clear c63); (try clear c65); (try clear c71); (try clear c72); (try clear c73); (try clear c77); (try clear c78); (try clear c79); (try clear c80); (try clear c82); (try clear c83); (try clear c89); (try clear c90); (try clear c91); (try clear c92); (try clear c93); (try clear c97); (try clear c98); (try clear c99); (try clear c100); (try clear c101); (try clear c102); (try clear c104); (try clear c109); (try clear c110); (try clear c111); (try clear c112); (try clear c113); (try clear c114); (try clear c115); (try clear c117); (try clear c117b0); (try clear c117b1); (try clear c118); (try clear c118b0); (try clear c118b1); (try clear c119); (try clear c119b0); (try clear c119b1); (try clear c120); (try clear c120b0); (try clear c120b1); (try clear c121); (try clear c121b0); (try clear c121b1); (try clear c122); (try clear c123); (try clear c124); (try clear c125); (try clear c126); (try clear c127); (try clear c128); (try clear c130); (try clear c131); (try clear c132); (try clear c133); (try clear c134); (try clear c135); (try clear hcz103_0); (try clear hcz103_1); (try clear hcz105_0); (try clear hcz105_1); (try clear hcz106_0); (try clear hcz106_1); (try clear hcz116_0); (try clear hcz116_1); (try clear hcz129_0); (try clear hcz129_1); (try clear hcz136_0); (try clear hcz136_1); (try clear hcz15_0); (try clear hcz15_1); (try clear hcz15_2); (try clear hcz17_0); (try clear hcz17_1); (try clear hcz17_2); (try clear hcz21_0); (try clear hcz21_1); (try clear hcz21_2); (try clear hcz23_0); (try clear hcz23_1); (try clear hcz23_2); (try clear hcz27_0); (try clear hcz27_1); (try clear hcz27_2); (try clear hcz37_0); (try clear hcz37_1); (try clear hcz37_2); (try clear hcz42_0); (try clear hcz42_1); (try clear hcz43_0); (try clear hcz43_1); (try clear hcz43_2); (try clear hcz49_0); (try clear hcz49_1); (try clear hcz54_0); (try clear hcz54_1); (try clear hcz57_0); (try clear hcz57_1); (try clear hcz61_0); (try clear hcz61_1); (try clear hcz64_0); (try clear hcz64_1); (try clear hcz74_0); (try clear hcz74_1); (try clear hcz74_2); (try clear hcz81_0); (try clear hcz81_1); (try clear hcz84_0); (try clear hcz84_1); (try clear hcz84_2); (try clear hcz85_0); (try clear hcz85_1); (try clear hcz85_2); (try clear hcz94_0); (try clear hcz94_1); (try clear hcz94_2); (try clear hfz103_0); (try clear hfz103_1); (try clear hfz105_0); (try clear hfz105_1); (try clear hfz106_0); (try clear hfz106_1); (try clear hfz116_0); (try clear hfz116_1); (try clear hfz129_0); (try clear hfz129_1); (try clear hfz136_0); (try clear hfz136_1); (try clear hfz15_0); (try clear hfz15_1); (try clear hfz15_2); (try clear hfz17_0); (try clear hfz17_1); (try clear hfz17_2); (try clear hfz21_0); (try clear hfz21_1); (try clear hfz21_2); (try clear hfz23_0); (try clear hfz23_1); (try clear hfz23_2); (try clear hfz27_0); (try clear hfz27_1); (try clear hfz27_2); (try clear hfz37_0); (try clear hfz37_1); (try clear hfz37_2); (try clear hfz42_0); (try clear hfz42_1); (try clear hfz43_0); (try clear hfz43_1); (try clear hfz43_2); (try clear hfz49_0); (try clear hfz49_1); (try clear hfz54_0); (try clear hfz54_1); (try clear hfz57_0); (try clear hfz57_1); (try clear hfz61_0); (try clear hfz61_1); (try clear hfz64_0); (try clear hfz64_1); (try clear hfz74_0); (try clear hfz74_1); (try clear hfz74_2); (try clear hfz81_0); (try clear hfz81_1); (try clear hfz84_0); (try clear hfz84_1); (try clear hfz84_2); (try clear hfz85_0); (try clear hfz85_1); (try clear hfz85_2); (try clear hfz94_0); (try clear hfz94_1); (try clear hfz94_2); (try clear p2)
        obtain ⟨kq, x6_69, rfl, HA, HJ69, HO_334000, BK309, BK310, BK318, BK322, BK326, BK333, BK337, BK341, HB⟩ := hcut
        cases kq with
        | zero => exact absurd HA.out (by simp [zal.j2])
        | succ kj69 =>
         have H := HA.out
         clear HA
         simp only [zal.j2] at H
         obtain rfl := Option.some.inj H
         go_wp2
         go_ret
         exact ⟨by first | rfl | (simp [zas, zar] <;> rfl) | (simp [*, zas, zar] <;> rfl), by repeat (first | (with_reducible first | exact HB.out | apply zac | apply zaa | apply zaf | refine zab ?_ GE309.out | refine zab ?_ GE310.out | refine zab ?_ GE318.out | refine zab ?_ GE322.out | refine zab ?_ GE326.out | refine zab ?_ GE333.out | refine zab ?_ GE337.out | refine zab ?_ GE341.out) | exact HB.out)⟩
end Go.Proofs.YtijhnmbegceonaaDoor.PTerm
namespace Go.Proofs.YtijhnmbegceonaaDoor.PTerm
open Go.RowKit Go.Proofs.YtijhnmbegceonaaDoorW.PrintWords Go.Proofs.YtijhnmbegceonaaDoorW.PrintLast Go.Proofs.YtijhnmbegceonaaDoorW.PrintMore
attribute [local go_sem] zbr zbp zbz zby zbh zbg zbq zbo
set_option linter.unusedVariables false
set_option linter.unusedSimpArgs false
def zdU.T : Bool × List (List Nat × List Nat) := (true, [([], []), ([], []), ([0, 1], [0, 1]), ([], []), ([2, 3, 2], [2, 3]), ([4], [4]), ([4], [4]), ([5, 4, 0, 1, 2, 3, 4, 5, 6], [5]), ([6, 7, 0, 1, 2, 3, 4, 5, 6, 7], [6])])
def zdU.B : List Nat := [0, 0, 3, 0, 15, 31, 31, 127, 255]
theorem zdU.tab : rtab .any (opsOf Tryd.f44 1) = zdU.T := by kernel_rfl
theorem zdU.bits : zcb zdU.T.2 zdU.B = true := by kernel_rfl
end Go.Proofs.YtijhnmbegceonaaDoor.PTerm
namespace Go.Proofs.YtijhnmbegceonaaDoor.PTerm
open Go Go.RowKit Go.Proofs.YtijhnmbegceonaaDoorW.PrintWords Go.Proofs.YtijhnmbegceonaaDoorW.PrintLast Go.Proofs.YtijhnmbegceonaaDoorW.PrintMore
open BallQ (In64 Right q out)
open PRat (zaJ zaV zbC zcM zbA zb2 w64 zdd addS mulS)
set_option linter.unusedVariables false
theorem zgL : za1.f 20 = some true := by decide +kernel
theorem zff : Ev (fun k => za1.f k) true := Ev.of (fun k => za1.mono k) zgL
def zeF (l : List (S24)) : Prop := ∀ x ∈ l, Right x.f0 x.f1
theorem zb6 (l : List (S24)) (n d : Int) : zbT l n d = true ↔ l.length ≤ 8 ∧ Right n d ∧ zeF l := by
 unfold zbT zeF
 simp only [Bool.and_eq_true, decide_eq_true_eq, List.all_eq_true]
theorem out_q {n d : Int} (h : Right n d) (hn : In64 n) (hd : In64 d) : out (q n d) = (n, d, 0) := by
 obtain ⟨h0, h1, h2⟩ := BallQ.zhn h hn hd
 unfold BallQ.out
 rw [if_pos h2, h0, h1]
theorem zfM : Right 0 1 := ⟨by decide, by decide, by decide⟩
theorem in0 : In64 0 := ⟨by decide, by decide⟩
theorem in1 : In64 1 := ⟨by decide, by decide⟩
theorem nought {d : Int} (h : Right 0 d) : d = 1 := by
 obtain ⟨h0, _, h2⟩ := h
 rw [Int.natAbs_zero, Nat.gcd_zero_left] at h2
 omega
theorem zeC (l : List (S24)) : ∀ n i, cutN l n ≤ i → i < n → (l.getD i ⟨0, 0⟩).f0 = 0
 | 0, i, _, h => by omega
 | n + 1, i, h1, h2 => by
  unfold cutN at h1
  split at h1
  ·rename_i hn
   by_cases hi : i = n
   ·subst hi; exact hn
   ·exact zeC l n i h1 (by omega)
  ·omega
theorem zdf (l : List (S24)) : (zcn l).length = cutN l l.length := by
 unfold zcn; rw [List.length_take]; have := zdA l l.length; omega
theorem zd0 {l : List (S24)} {x : S24} (h : x ∈ zcn l) : x ∈ l := List.mem_of_mem_take h
theorem getD_lt {l : List (S24)} {i : Nat} (h : i < l.length) (z : S24) : l.getD i z = l[i] := by
 rw [List.getD_eq_getElem?_getD, List.getElem?_eq_getElem h]; rfl
theorem zdu {l : List (S24)} {i : Nat} (h : l.length ≤ i) (z : S24) : l.getD i z = z := by
 rw [List.getD_eq_getElem?_getD, List.getElem?_eq_none h]; rfl
theorem zgt {l : List (S24)} {i : Nat} (h : i < cutN l l.length) (z : S24) : (zcn l).getD i z = l.getD i z := by
 have h1 := zdA l l.length
 rw [getD_lt (by rw [zdf]; exact h), getD_lt (by omega)]
 unfold zcn
 rw [List.getElem_take]
theorem zha {l : List (S24)} (hr : zeF l) (i : Nat) : (zcn l).getD i ⟨0, 1⟩ = l.getD i ⟨0, 1⟩ := by
 by_cases h : i < cutN l l.length
 ·exact zgt h _
 ·rw [zdu (by rw [zdf]; omega)]
  by_cases h2 : i < l.length
  ·rw [getD_lt h2]
   have h3 := zeC l l.length i (by omega) h2
   rw [getD_lt h2] at h3
   have h4 := hr _ (List.getElem_mem h2)
   generalize l[i] = y at h3 h4 ⊢
   obtain ⟨y0, y1⟩ := y
   simp only at h3 h4
   subst h3
   rw [nought h4]
  ·rw [zdu (by omega)]
theorem zhB {f : Nat → Int × Int × Int} {n : Nat} (g : Nat → S24) (h : ∀ i, i ≤ n → f i = ((g i).f0, (g i).f1, 0)) : zcW f n = (zcn ((List.range n).map (fun i => g (i + 1))), (g 0).f0, (g 0).f1, 0) := by
 rw [zdv (fun j hj => by rw [h j (by omega)])]
 rw [h 0 (by omega)]
 have e : (List.range n).map (fun i => (⟨(f (i + 1)).1, (f (i + 1)).2.1⟩ : S24)) = (List.range n).map (fun i => g (i + 1)) := by
  apply List.map_congr_left
  intro i hi
  rw [h (i + 1) (by have := List.mem_range.1 hi; omega)]
 rw [e]
def gT (l : List (S24)) (n d : Int) : Nat → S24
 | 0 => ⟨n, d⟩
 | i + 1 => l.getD i ⟨0, 1⟩
theorem one_g (l : List (S24)) (n d : Int) (i : Nat) : oneT l n d i = ((gT l n d i).f0, (gT l n d i).f1) := by cases i <;> rfl
theorem zf5 {l : List (S24)} {n d : Int} (hn : Right n d) (hl : zeF l) (i : Nat) : Right (gT l n d i).f0 (gT l n d i).f1 := by
 cases i with
 | zero => exact hn
 | succ i =>
  show Right (l.getD i ⟨0, 1⟩).f0 (l.getD i ⟨0, 1⟩).f1
  by_cases h : i < l.length
  ·rw [getD_lt h]; exact hl _ (List.getElem_mem h)
  ·rw [zdu (by omega)]; exact zfM
theorem zfL {l : List (S24)} {n d : Int} (hl : zb9 l) (h8 : l.length < 1000000) (hn : In64 n) (hd : In64 d) : za4.f l n d = some (zbT l n d) := by
 unfold za4.f; rw [if_pos ⟨hl, h8, hn, hd⟩]
theorem zfq (l : List (S24)) (i : Nat) : zaC l (i : Int) = l.getD i ⟨0, 0⟩ := by unfold zaC; rw [Int.toNat_natCast]; rfl
theorem zd2 {n d : Int} (hn : In64 n) (hd : In64 d) : zaz.f n d = some (decide (Right n d)) := by
 unfold zaz.f; rw [if_pos ⟨hn, hd⟩]
theorem zeo {l : List (S24)} {n d : Int} (hl : zb9 l) (h8 : l.length < 1000000) (hn : In64 n) (hd : In64 d) (m : Nat) : ∀ i, i + m = l.length → Ev (fun k => zaX.l0 k (i : Int) l n d) (decide (l.length ≤ 8) && (decide (Right n d) && (l.drop i).all (fun x => decide (Right x.f0 x.f1)))) := by
 induction m with
 | zero =>
  intro i hi
  refine Ev.step (fun k => by rw [zaX.l0]) (zaV (by omega) ?_)
  rw [List.drop_eq_nil_of_le (by omega), List.all_nil, Bool.and_true]
  by_cases h : l.length ≤ 8
  ·rw [decide_eq_true h, Bool.true_and]
   exact zaJ (by omega) (zbC (zd2 hn hd) (Ev.now _))
  ·rw [decide_eq_false h, Bool.false_and]
   exact zaV (by omega) (Ev.now _)
 | succ m ih =>
  intro i hi
  have hlt : i < l.length := by omega
  have hx := hl _ (List.getElem_mem hlt)
  refine Ev.step (fun k => by rw [zaX.l0]) (zaJ (by omega) (zaJ (by omega) ?_))
  rw [zfq, getD_lt hlt, List.drop_eq_getElem_cons hlt, List.all_cons]
  refine zbC (zd2 hx.1 hx.2) ?_
  cases hb : decide (Right l[i].f0 l[i].f1) with
  | true =>
   refine zaJ rfl ?_
   rw [zdd i (by omega), Bool.true_and]
   exact ih (i + 1) (by omega)
  | false =>
   rw [Bool.false_and, Bool.and_false, Bool.and_false]
   exact zaV (by decide) (Ev.now _)
theorem zfP {l : List (S24)} {n d : Int} (hl : zb9 l) (h8 : l.length < 1000000) (hn : In64 n) (hd : In64 d) : Ev (fun k => zaX.f k l n d) (zbT l n d) := by
 unfold zaX.f zbT
 have := zeo hl h8 hn hd l.length 0 (by omega)
 rw [List.drop_zero] at this
 exact this
theorem zfJ (l : List (S24)) (n d : Int) : za0.f l n d = some (decide ((l.length : Int) ≤ 12)) := rfl
end Go.Proofs.YtijhnmbegceonaaDoor.PTerm
namespace Go.Proofs.YtijhnmbegceonaaDoor.PTerm
open Go Go.RowKit Go.Proofs.YtijhnmbegceonaaDoorW.PrintWords Go.Proofs.YtijhnmbegceonaaDoorW.PrintLast Go.Proofs.YtijhnmbegceonaaDoorW.PrintMore
open BallQ (In64 Right q out fits)
open PRat (zaJ zaV zbC zcM zbA zb2 w64 zdd addS mulS)
set_option linter.unusedVariables false
def toS (x : Rat) : S24 := ⟨x.num, (x.den : Int)⟩
theorem zco {x : Rat} (h : fits x) : Right (toS x).f0 (toS x).f1 ∧ In64 (toS x).f0 ∧ In64 (toS x).f1 := BallQ.zfo h
theorem zhm (x : Rat) : q (toS x).f0 (toS x).f1 = x := BallQ.q_self x
def V (l : List (S24)) (n d : Int) (i : Nat) : Rat := q (gT l n d i).f0 (gT l n d i).f1
theorem zew {f : Nat → Int × Int × Int} {n : Nat} : ∀ i, i ≤ n → (f i).2.2 ≠ 0 → ∃ j, j ≤ n ∧ (∀ m, m < j → (f m).2.2 = 0) ∧ (f j).2.2 ≠ 0 := by
 intro i
 induction i using Nat.strongRecOn with
 | ind i ih =>
  intro hi hb
  by_cases h : ∀ m, m < i → (f m).2.2 = 0
  ·exact ⟨i, hi, h, hb⟩
  ·have : ∃ m, m < i ∧ (f m).2.2 ≠ 0 := by
    by_cases hx : ∃ m, m < i ∧ (f m).2.2 ≠ 0
    ·exact hx
    ·exact absurd (fun m hm => Decidable.byContradiction (fun h0 => hx ⟨m, hm, h0⟩)) h
   obtain ⟨m, hm, h0⟩ := this
   exact ih m hm (by omega) h0
theorem zf9 {f : Nat → Int × Int × Int} {h : Nat → Rat} {n : Nat} (hf : ∀ i, i ≤ n → f i = out (h i)) (he : (zcW f n).2.2.2 = 0) : (∀ i, i ≤ n → fits (h i)) ∧ zcW f n = (zcn ((List.range n).map (fun i => toS (h (i + 1)))), (h 0).num, ((h 0).den : Int), 0) := by
 have hfit : ∀ i, i ≤ n → fits (h i) := by
  intro i hi
  by_cases hx : fits (h i)
  ·exact hx
  ·exfalso
   have hb : (f i).2.2 ≠ 0 := by rw [hf i hi]; unfold BallQ.out; rw [if_neg hx]; decide
   obtain ⟨j, hj, h0, h1⟩ := zew i hi hb
   rw [zd9 hj h0 h1] at he
   exact h1 he
 refine ⟨hfit, ?_⟩
 rw [zhB (fun i => toS (h i)) (fun i hi => by rw [hf i hi]; unfold BallQ.out; rw [if_pos (hfit i hi)]; rfl)]
 rfl
theorem map_at (h : Nat → Rat) (n i : Nat) : ((List.range n).map (fun i => toS (h (i + 1)))).getD i ⟨0, 1⟩ = if i < n then toS (h (i + 1)) else ⟨0, 1⟩ := by
 by_cases hi : i < n
 ·rw [if_pos hi, getD_lt (by simpa using hi), List.getElem_map, List.getElem_range]
 ·rw [if_neg hi, zdu (by simpa using (show n ≤ i by omega))]
theorem q01 : q 0 1 = 0 := by decide +kernel
theorem made {h : Nat → Rat} {n : Nat} (hfit : ∀ i, i ≤ n → fits (h i)) (h8 : n ≤ 8) (hz : ∀ i, n < i → h i = 0) :
  zbT (zcn ((List.range n).map (fun i => toS (h (i + 1))))) (h 0).num ((h 0).den : Int) = true ∧ zb9 (zcn ((List.range n).map (fun i => toS (h (i + 1))))) ∧ In64 (h 0).num ∧ In64 ((h 0).den : Int) ∧
  ∀ i, V (zcn ((List.range n).map (fun i => toS (h (i + 1))))) (h 0).num ((h 0).den : Int) i = h i := by
 have hR : zeF ((List.range n).map (fun i => toS (h (i + 1)))) := by
  intro x hx
  obtain ⟨j, hj, rfl⟩ := List.mem_map.1 hx
  exact (zco (hfit (j + 1) (by have := List.mem_range.1 hj; omega))).1
 have h0 := zco (hfit 0 (Nat.zero_le _))
 refine ⟨?_, fun x hx => ?_, h0.2.1, h0.2.2, fun i => ?_⟩
 ·rw [zb6]
  refine ⟨?_, h0.1, fun x hx => hR x (zd0 hx)⟩
  have := zdf ((List.range n).map (fun i => toS (h (i + 1))))
  have := zdA ((List.range n).map (fun i => toS (h (i + 1)))) ((List.range n).map (fun i => toS (h (i + 1)))).length
  simp only [List.length_map, List.length_range] at *
  omega
 ·obtain ⟨j, hj, rfl⟩ := List.mem_map.1 (zd0 hx)
  exact (zco (hfit (j + 1) (by have := List.mem_range.1 hj; omega))).2
 ·cases i with
  | zero => exact zhm (h 0)
  | succ i =>
   show q ((zcn ((List.range n).map (fun i => toS (h (i + 1))))).getD i ⟨0, 1⟩).f0 ((zcn ((List.range n).map (fun i => toS (h (i + 1))))).getD i ⟨0, 1⟩).f1 = h (i + 1)
   rw [zha hR, map_at]
   by_cases hi : i < n
   ·rw [if_pos hi]; exact zhm _
   ·rw [if_neg hi, hz (i + 1) (by omega)]; exact q01
theorem zhF {l : List (S24)} {n d : Int} {i : Nat} (h : l.length < i) : V l n d i = 0 := by
 cases i with
 | zero => omega
 | succ i =>
  show q (l.getD i ⟨0, 1⟩).f0 (l.getD i ⟨0, 1⟩).f1 = 0
  rw [zdu (by omega)]; exact q01
theorem zed {a b c d : Int} (h : Right a b) (k : Right c d) : addS a b c d = out (q a b + q c d) := by unfold PRat.addS; rw [if_pos ⟨h, k⟩]
theorem zgF {a b c d : Int} (h : Right a b) (k : Right c d) : mulS a b c d = out (q a b * q c d) := by unfold PRat.mulS; rw [if_pos ⟨h, k⟩]
theorem add_f {l0 l1 : List (S24)} {n0 d0 n1 d1 : Int} (h0 : zbT l0 n0 d0 = true) (h1 : zbT l1 n1 d1 = true) (i : Nat) : addF l0 n0 d0 l1 n1 d1 i = out (V l0 n0 d0 i + V l1 n1 d1 i) := by
 obtain ⟨_, a, b⟩ := (zb6 _ _ _).1 h0
 obtain ⟨_, c, e⟩ := (zb6 _ _ _).1 h1
 unfold addF
 rw [one_g, one_g]
 exact zed (zf5 a b i) (zf5 c e i)
def Good (r : List (S24) × Int × Int × Int) (v : Nat → Rat) : Prop := zbT r.1 r.2.1 r.2.2.1 = true ∧ zb9 r.1 ∧ In64 r.2.1 ∧ In64 r.2.2.1 ∧ ∀ i, V r.1 r.2.1 r.2.2.1 i = v i
theorem add_ok {l0 l1 : List (S24)} {n0 d0 n1 d1 : Int} (he : (addT l0 n0 d0 l1 n1 d1).2.2.2 = 0) : zbT l0 n0 d0 = true ∧ zbT l1 n1 d1 = true ∧ Good (addT l0 n0 d0 l1 n1 d1) (fun i => V l0 n0 d0 i + V l1 n1 d1 i) := by
 cases h0 : zbT l0 n0 d0 with
 | false => unfold addT at he; rw [h0, Bool.false_and, if_neg (by decide)] at he; exact absurd he (by decide)
 | true =>
  cases h1 : zbT l1 n1 d1 with
  | false => unfold addT at he; rw [h0, h1, if_neg (by decide)] at he; exact absurd he (by decide)
  | true =>
   have e : addT l0 n0 d0 l1 n1 d1 = zcW (addF l0 n0 d0 l1 n1 d1) (max l0.length l1.length) := by unfold addT; rw [h0, h1]; exact if_pos rfl
   rw [e] at he ⊢
   obtain ⟨hfit, er⟩ := zf9 (fun i _ => add_f h0 h1 i) he
   rw [er]
   have a8 := ((zb6 _ _ _).1 h0).1
   have b8 := ((zb6 _ _ _).1 h1).1
   exact ⟨rfl, rfl, made hfit (by omega) (fun i hi => by rw [zhF (by omega), zhF (by omega)]; grind)⟩
def InR (r : List (S24) × Int × Int × Int) : Prop := zb9 r.1 ∧ r.1.length < 800000 ∧ In64 r.2.1 ∧ In64 r.2.2.1
theorem zhC {f : Nat → Int × Int × Int} {h : Nat → Rat} {n : Nat} (hf : ∀ i, i ≤ n → f i = out (h i)) (h8 : n ≤ 8) : InR (zcW f n) := by
 by_cases he : (zcW f n).2.2.2 = 0
 ·obtain ⟨hfit, er⟩ := zf9 hf he
  rw [er]
  have h0 := zco (hfit 0 (Nat.zero_le _))
  refine ⟨fun x hx => ?_, ?_, h0.2.1, h0.2.2⟩
  ·obtain ⟨j, hj, rfl⟩ := List.mem_map.1 (zd0 hx)
   exact (zco (hfit (j + 1) (by have := List.mem_range.1 hj; omega))).2
  ·have := zdf ((List.range n).map (fun i => toS (h (i + 1))))
   have := zdA ((List.range n).map (fun i => toS (h (i + 1)))) ((List.range n).map (fun i => toS (h (i + 1)))).length
   simp only [List.length_map, List.length_range] at *
   omega
 ·have hne : ∃ i, i ≤ n ∧ (f i).2.2 ≠ 0 := by
   by_cases hx : ∃ i, i ≤ n ∧ (f i).2.2 ≠ 0
   ·exact hx
   ·exfalso
    exact he (by rw [zdv (fun j hj => Decidable.byContradiction (fun h0 => hx ⟨j, by omega, h0⟩))])
  obtain ⟨i, hi, hb⟩ := hne
  obtain ⟨j, hj, h0, h1⟩ := zew i hi hb
  rw [zd9 hj h0 h1]
  exact ⟨fun x hx => (by cases hx), by simp, in0, in0⟩
theorem zht (e : Int) : InR (([] : List (S24)), 0, 0, e) := ⟨fun x hx => (by cases hx), by simp, in0, in0⟩
theorem add_in {l0 l1 : List (S24)} {n0 d0 n1 d1 : Int} : InR (addT l0 n0 d0 l1 n1 d1) := by
 unfold addT
 split
 ·rename_i h
  rw [Bool.and_eq_true] at h
  have a8 := ((zb6 _ _ _).1 h.1).1
  have b8 := ((zb6 _ _ _).1 h.2).1
  exact zhC (fun i _ => add_f h.1 h.2 i) (by omega)
 ·exact zht 2
end Go.Proofs.YtijhnmbegceonaaDoor.PTerm
namespace Go.Proofs.YtijhnmbegceonaaDoor.PTerm
open Go Go.RowKit Go.Proofs.YtijhnmbegceonaaDoorW.PrintWords Go.Proofs.YtijhnmbegceonaaDoorW.PrintLast Go.Proofs.YtijhnmbegceonaaDoorW.PrintMore
open BallQ (In64 Right q out fits)
open PRat (zaJ zaV zbC zcM zbA zb2 w64 zdd addS mulS)
set_option linter.unusedVariables false
def qS (x : S24) : Rat := q x.f0 x.f1
def valT : List (S24 × S24) → Int → Int → Int × Int × Int
 | [], n, d => (n, d, 0)
 | p :: r, n, d => if (mulS p.1.f0 p.1.f1 p.2.f0 p.2.f1).2.2 = 0 then (if (addS n d (mulS p.1.f0 p.1.f1 p.2.f0 p.2.f1).1 (mulS p.1.f0 p.1.f1 p.2.f0 p.2.f1).2.1).2.2 = 0 then valT r (addS n d (mulS p.1.f0 p.1.f1 p.2.f0 p.2.f1).1 (mulS p.1.f0 p.1.f1 p.2.f0 p.2.f1).2.1).1 (addS n d (mulS p.1.f0 p.1.f1 p.2.f0 p.2.f1).1 (mulS p.1.f0 p.1.f1 p.2.f0 p.2.f1).2.1).2.1 else (0, 0, (addS n d (mulS p.1.f0 p.1.f1 p.2.f0 p.2.f1).1 (mulS p.1.f0 p.1.f1 p.2.f0 p.2.f1).2.1).2.2)) else (0, 0, (mulS p.1.f0 p.1.f1 p.2.f0 p.2.f1).2.2)
theorem zfT (x : Rat) : In64 (out x).1 ∧ In64 (out x).2.1 := by
 unfold BallQ.out
 split
 ·rename_i h; exact (zco h).2
 ·exact ⟨in0, in0⟩
theorem zee (a b c d : Int) : In64 (addS a b c d).1 ∧ In64 (addS a b c d).2.1 := by
 unfold PRat.addS; split
 ·exact zfT _
 ·exact ⟨in0, in0⟩
theorem zf0 (a b c d : Int) : In64 (mulS a b c d).1 ∧ In64 (mulS a b c d).2.1 := by
 unfold PRat.mulS; split
 ·exact zfT _
 ·exact ⟨in0, in0⟩
theorem zgU {x : Rat} (h : (out x).2.2 = 0) : fits x ∧ out x = (x.num, (x.den : Int), 0) := by
 unfold BallQ.out at h ⊢
 by_cases hx : fits x
 ·rw [if_pos hx]; exact ⟨hx, rfl⟩
 ·rw [if_neg hx] at h; exact absurd h (by decide)
theorem zd5 {x : Rat} (h : (out x).2.2 = 0) : Right (out x).1 (out x).2.1 ∧ q (out x).1 (out x).2.1 = x := by
 obtain ⟨hf, e⟩ := zgU h
 rw [e]
 exact ⟨(zco hf).1, zhm x⟩
def sumQ : List (S24 × S24) → Rat
 | [] => 0
 | p :: r => qS p.1 * qS p.2 + sumQ r
def sumV (f : Nat → Rat) : List (S24) → Rat
 | [] => 0
 | a :: r => f 0 * qS a + sumV (fun i => f (i + 1)) r
theorem zem : ∀ (at_ : List (S24)) (f : Nat → Rat), (∀ i, f i = 0) → sumV f at_ = 0
 | [], f, h => rfl
 | a :: r, f, h => by
  have := zem r (fun i => f (i + 1)) (fun i => h (i + 1))
  unfold sumV; rw [this, h 0]; grind
theorem ze2 : ∀ (at_ : List (S24)) (f g : Nat → Rat), sumV (fun i => f i + g i) at_ = sumV f at_ + sumV g at_
 | [], f, g => by unfold sumV; grind
 | a :: r, f, g => by
  have := ze2 r (fun i => f (i + 1)) (fun i => g (i + 1))
  unfold sumV
  rw [this]; grind
theorem zfF : ∀ (l at_ : List (S24)), sumQ (l.zip at_) = sumV (fun i => qS (l.getD i ⟨0, 1⟩)) at_
 | [], at_ => by
  rw [zem _ _ (fun i => by show qS (([] : List (S24)).getD i ⟨0, 1⟩) = 0; rw [List.getD_nil]; exact q01)]
  rfl
 | c :: l, [] => rfl
 | c :: l, a :: r => by
  show qS c * qS a + sumQ (l.zip r) = qS c * qS a + sumV (fun i => qS (l.getD i ⟨0, 1⟩)) r
  rw [zfF l r]
theorem val_ok : ∀ (z : List (S24 × S24)) (n d : Int), Right n d → In64 n → In64 d → (∀ p ∈ z, Right p.1.f0 p.1.f1 ∧ Right p.2.f0 p.2.f1) → (valT z n d).2.2 = 0 → valT z n d = out (q n d + sumQ z)
 | [], n, d, hr, hn, hd, _, _ => by
  unfold valT sumQ
  rw [Rat.add_zero, out_q hr hn hd]
 | p :: r, n, d, hr, hn, hd, hz, he => by
  have hp := hz p (List.mem_cons_self)
  have m1 := zgF hp.1 hp.2
  unfold valT at he ⊢
  rw [m1] at he ⊢
  by_cases e1 : (out (q p.1.f0 p.1.f1 * q p.2.f0 p.2.f1)).2.2 = 0
  ·rw [if_pos e1] at he ⊢
   obtain ⟨v1, v2⟩ := zd5 e1
   have m2 := zed hr v1
   rw [v2] at m2
   rw [m2] at he ⊢
   by_cases e2 : (out (q n d + q p.1.f0 p.1.f1 * q p.2.f0 p.2.f1)).2.2 = 0
   ·rw [if_pos e2] at he ⊢
    obtain ⟨w1, w2⟩ := zd5 e2
    have hi := zfT (q n d + q p.1.f0 p.1.f1 * q p.2.f0 p.2.f1)
    rw [val_ok r _ _ w1 hi.1 hi.2 (fun x hx => hz x (List.mem_cons_of_mem _ hx)) he, w2]
    show out _ = out (q n d + (q p.1.f0 p.1.f1 * q p.2.f0 p.2.f1 + sumQ r))
    rw [Rat.add_assoc]
   ·rw [if_neg e2] at he; exact absurd he e2
  ·rw [if_neg e1] at he; exact absurd he e1
theorem zgO : ∀ (z : List (S24 × S24)) (n d : Int), In64 n → In64 d → In64 (valT z n d).1 ∧ In64 (valT z n d).2.1
 | [], n, d, hn, hd => ⟨hn, hd⟩
 | p :: r, n, d, hn, hd => by
  unfold valT
  split
  ·split
   ·exact zgO r _ _ (zee _ _ _ _).1 (zee _ _ _ _).2
   ·exact ⟨in0, in0⟩
  ·exact ⟨in0, in0⟩
def zcv (l : List (S24)) (n d : Int) (at_ : List (S24)) : Int × Int × Int := if (zbT l n d && (at_.take 8).all (fun x => decide (Right x.f0 x.f1))) = true then valT (l.zip at_) n d else (0, 0, 2)
theorem zeZ {l : List (S24)} {n d : Int} {at_ : List (S24)} (hn : In64 n) (hd : In64 d) : In64 (zcv l n d at_).1 ∧ In64 (zcv l n d at_).2.1 := by
 unfold zcv; split
 ·exact zgO _ _ _ hn hd
 ·exact ⟨in0, in0⟩
theorem zdZ {l : List (S24)} {n d : Int} {at_ : List (S24)} (hn : In64 n) (hd : In64 d) (he : (zcv l n d at_).2.2 = 0) : zcv l n d at_ = out (V l n d 0 + sumV (fun i => V l n d (i + 1)) at_) := by
 unfold zcv at he ⊢
 cases hc : (zbT l n d && (at_.take 8).all (fun x => decide (Right x.f0 x.f1))) with
 | false => rw [hc, if_neg (by decide)] at he; exact absurd he (by decide)
 | true =>
  rw [hc, if_pos rfl] at he
  rw [if_pos rfl]
  rw [Bool.and_eq_true] at hc
  obtain ⟨h8, hk, hL⟩ := (zb6 _ _ _).1 hc.1
  have e := val_ok (l.zip at_) n d hk hn hd (fun p hp => by
   obtain ⟨i, hi, rfl⟩ := List.mem_iff_getElem.1 hp
   rw [List.length_zip] at hi
   rw [List.getElem_zip]
   refine ⟨hL _ (List.getElem_mem _), ?_⟩
   have := List.all_eq_true.1 hc.2 at_[i] (List.mem_iff_getElem.2 ⟨i, by rw [List.length_take]; omega, List.getElem_take⟩)
   exact of_decide_eq_true this) he
  rw [e, zfF]
  rfl
theorem zeY : ∀ (l at_ : List (S24)), (l.take (min l.length at_.length)).zip at_ = l.zip at_
 | [], at_ => by simp
 | c :: l, [] => by simp
 | c :: l, a :: r => by
  have e : min (c :: l).length (a :: r).length = min l.length r.length + 1 := by simp only [List.length_cons]; omega
  rw [e, List.take_succ_cons, List.zip_cons_cons, List.zip_cons_cons, zeY l r]
theorem zek : ∀ (l at_ : List (S24)) (n : Nat), l.length ≤ n → l.zip (at_.take n) = l.zip at_
 | [], at_, n, h => by simp
 | c :: l, at_, 0, h => by simp at h
 | c :: l, [], n + 1, h => by simp
 | c :: l, a :: r, n + 1, h => by
  rw [List.take_succ_cons, List.zip_cons_cons, List.zip_cons_cons, zek l r n (by simpa using h)]
theorem zgY (a b : Nat) : mn (a : Int) (b : Int) = ((min a b : Nat) : Int) := by unfold mn; split <;> omega
theorem mulS_f {a b c d : Int} (h1 : In64 a ∧ In64 b) (h2 : In64 c ∧ In64 d) : zba.f a b c d = some (mulS a b c d) := by unfold zba.f; rw [if_pos ⟨h1, h2⟩]
theorem addS_f {a b c d : Int} (h1 : In64 a ∧ In64 b) (h2 : In64 c ∧ In64 d) : zbD.f a b c d = some (addS a b c d) := by unfold zbD.f; rw [if_pos ⟨h1, h2⟩]
theorem ze5 {a b c d : Int} (h1 : In64 a ∧ In64 b) (h2 : In64 c ∧ In64 d) : za2.f 0 a b c d = some (addS a b c d) := by unfold za2.f; rw [if_pos ⟨h1, h2⟩, if_pos rfl]
theorem zgx {a b c d : Int} (h1 : In64 a ∧ In64 b) (h2 : In64 c ∧ In64 d) : za2.f 2 a b c d = some (mulS a b c d) := by unfold za2.f; rw [if_pos ⟨h1, h2⟩, if_neg (by decide), if_pos rfl]
theorem tv_l0 (at_ l : List (S24)) (hle : l.length ≤ at_.length) (h8 : l.length < 1000000) (ha : zb9 at_) (hl : zb9 l) (m : Nat) : ∀ i n d, In64 n → In64 d → i + m = l.length → Ev (fun k => zaM.l0 k at_ l (l.length : Int) (i : Int) n d) (valT ((l.zip at_).drop i) n d) := by
 induction m with
 | zero =>
  intro i n d hn hd hi
  rw [List.drop_eq_nil_of_le (by rw [List.length_zip]; omega), valT]
  exact Ev.step (fun k => by rw [zaM.l0]) (zaV (by omega) (Ev.now _))
 | succ m ih =>
  intro i n d hn hd hi
  have hlt : i < l.length := by omega
  have hlt2 : i < at_.length := by omega
  have hx := hl _ (List.getElem_mem hlt)
  have hy := ha _ (List.getElem_mem hlt2)
  refine Ev.step (fun k => by rw [zaM.l0]) (zaJ (by omega) (zaJ (by omega) (zaJ (by omega) (zaJ (by omega) ?_))))
  rw [zfq, zfq, getD_lt hlt, getD_lt hlt2, List.drop_eq_getElem_cons (by rw [List.length_zip]; omega), List.getElem_zip, valT]
  refine zbC (mulS_f hx hy) ?_
  have hm := zf0 l[i].f0 l[i].f1 at_[i].f0 at_[i].f1
  simp only
  generalize mulS l[i].f0 l[i].f1 at_[i].f0 at_[i].f1 = x at hm ⊢
  by_cases e1 : x.2.2 = 0
  ·rw [if_pos e1]
   refine zaJ e1 (zbC (addS_f ⟨hn, hd⟩ hm) ?_)
   have ha2 := zee n d x.1 x.2.1
   generalize addS n d x.1 x.2.1 = y at ha2 ⊢
   by_cases e2 : y.2.2 = 0
   ·rw [if_pos e2]
    refine zaJ e2 ?_
    rw [zdd i (by omega)]
    exact ih (i + 1) _ _ ha2.1 ha2.2 (by omega)
   ·rw [if_neg e2]
    exact zaV e2 (Ev.now _)
  ·rw [if_neg e1]
   exact zaV e1 (Ev.now _)
theorem rv_l1 (at_ l : List (S24)) (n0 d0 : Int) (h8 : l.length < 1000000) (ha : zb9 at_) (hl : zb9 l) (m : Nat) : ∀ i n d, In64 n → In64 d → i + m = min l.length at_.length → Ev (fun k => zan.l1 k at_ (i : Int) l n0 d0 n d) (valT ((l.zip at_).drop i) n d) := by
 induction m with
 | zero =>
  intro i n d hn hd hi
  rw [List.drop_eq_nil_of_le (by rw [List.length_zip]; omega), valT]
  have stop : Ev (fun k => zan.j3 k at_ (i : Int) false l n0 d0 n d) (n, d, 0) := Ev.step (fun k => by rw [zan.j3]) (zaV (by decide) (Ev.now _))
  refine Ev.step (fun k => by rw [zan.l1]) ?_
  by_cases hq : i < l.length
  ·refine zaJ (by omega) ?_
   rw [decide_eq_false (show ¬ ((i : Int) < (at_.length : Int)) by omega)]
   exact stop
  ·exact zaV (by omega) stop
 | succ m ih =>
  intro i n d hn hd hi
  have hlt : i < l.length := by omega
  have hlt2 : i < at_.length := by omega
  have hx := hl _ (List.getElem_mem hlt)
  have hy := ha _ (List.getElem_mem hlt2)
  refine Ev.step (fun k => by rw [zan.l1]) (zaJ (by omega) ?_)
  rw [decide_eq_true (show ((i : Int) < (at_.length : Int)) by omega)]
  refine Ev.step (fun k => by rw [zan.j3]) (zaJ rfl (zaJ (by omega) (zaJ (by omega) (zaJ (by omega) ?_))))
  rw [zfq, zfq, getD_lt hlt, getD_lt hlt2, List.drop_eq_getElem_cons (by rw [List.length_zip]; omega), List.getElem_zip, valT]
  refine zbC (zgx hx hy) ?_
  have hm := zf0 l[i].f0 l[i].f1 at_[i].f0 at_[i].f1
  simp only
  generalize mulS l[i].f0 l[i].f1 at_[i].f0 at_[i].f1 = x at hm ⊢
  by_cases e1 : x.2.2 = 0
  ·rw [if_pos e1]
   refine zaJ e1 (zbC (ze5 ⟨hn, hd⟩ hm) ?_)
   have ha2 := zee n d x.1 x.2.1
   generalize addS n d x.1 x.2.1 = y at ha2 ⊢
   by_cases e2 : y.2.2 = 0
   ·rw [if_pos e2]
    refine zaJ e2 ?_
    rw [zdd i (by omega)]
    exact ih (i + 1) _ _ ha2.1 ha2.2 (by omega)
   ·rw [if_neg e2]
    exact zaV e2 (Ev.now _)
  ·rw [if_neg e1]
   exact zaV e1 (Ev.now _)
theorem rv_l0 (at_ l : List (S24)) (n d : Int) (hn : In64 n) (hd : In64 d) (h8 : l.length < 1000000) (h9 : at_.length < 1000000) (ha : zb9 at_) (hl : zb9 l) (m : Nat) : ∀ i, i + m = min at_.length 8 → Ev (fun k => zan.l0 k at_ (i : Int) l n d) (if ((at_.take 8).drop i).all (fun x => decide (Right x.f0 x.f1)) = true then valT (l.zip at_) n d else (0, 0, 2)) := by
 induction m with
 | zero =>
  intro i hi
  rw [List.drop_eq_nil_of_le (by rw [List.length_take]; omega), List.all_nil, if_pos rfl]
  have go : Ev (fun k => zan.j1 k at_ (i : Int) false l n d) (valT (l.zip at_) n d) := by
   refine Ev.step (fun k => by rw [zan.j1]) (zaV (by decide) ?_)
   have := rv_l1 at_ l n d h8 ha hl (min l.length at_.length) 0 n d hn hd (by omega)
   rw [List.drop_zero] at this
   exact this
  refine Ev.step (fun k => by rw [zan.l0]) ?_
  by_cases hq : i < at_.length
  ·refine zaJ (by omega) ?_
   rw [decide_eq_false (show ¬ ((i : Int) < 8) by omega)]
   exact go
  ·exact zaV (by omega) go
 | succ m ih =>
  intro i hi
  have hlt : i < at_.length := by omega
  have hx := ha _ (List.getElem_mem hlt)
  refine Ev.step (fun k => by rw [zan.l0]) (zaJ (by omega) ?_)
  rw [decide_eq_true (show ((i : Int) < 8) by omega)]
  refine Ev.step (fun k => by rw [zan.j1]) (zaJ rfl (zaJ (by omega) (zaJ (by omega) ?_)))
  rw [zfq, getD_lt hlt, List.drop_eq_getElem_cons (by rw [List.length_take]; omega), List.all_cons, List.getElem_take]
  refine zbC (zd2 hx.1 hx.2) ?_
  cases hb : decide (Right at_[i].f0 at_[i].f1) with
  | true =>
   refine zaJ rfl ?_
   rw [zdd i (by omega), Bool.true_and]
   exact ih (i + 1) (by omega)
  | false =>
   rw [Bool.false_and, if_neg (by decide)]
   exact zaV (by decide) (Ev.now _)
theorem rv_ev {l : List (S24)} {n d : Int} {at_ : List (S24)} (hl : zb9 l) (h8 : l.length < 1000000) (hn : In64 n) (hd : In64 d) (ha : zb9 at_) (h9 : at_.length < 1000000) : Ev (fun k => zan.f k l n d at_) (zcv l n d at_) := by
 unfold zan.f zcv
 refine Ev.bind (zfP hl h8 hn hd) ?_
 cases hr : zbT l n d with
 | true =>
  refine zaJ rfl ?_
  have := rv_l0 at_ l n d hn hd h8 h9 ha hl (min at_.length 8) 0 (by omega)
  rw [List.drop_zero] at this
  rw [Bool.true_and]
  exact this
 | false => exact zaV (by decide) (Ev.now _)
theorem zg8 {l : List (S24)} {n d : Int} {at_ : List (S24)} (hl : zb9 l) (h8 : l.length < 1000000) (hn : In64 n) (hd : In64 d) (ha : zb9 at_) (h9 : at_.length < 1000000) : Ev (fun k => zaM.f k l n d at_) (zcv l n d at_) := by
 unfold zaM.f zcv
 have e8 : mn (at_.length : Int) 8 = ((min at_.length 8 : Nat) : Int) := zgY at_.length 8
 rw [e8]
 refine zaJ (by omega) (zaJ (by omega) (zbC rfl ?_))
 rw [Int.toNat_natCast, show at_.take (min at_.length 8) = at_.take 8 by rw [Nat.min_comm, ← List.take_eq_take_min]]
 have stop : Ev (fun k => zaM.j0 k (at_.take 8) true l n d) (0, 0, 2) := Ev.step (fun k => by rw [zaM.j0]) (zaJ rfl (Ev.now _))
 have hin : zb9 (at_.take 8) := fun x hx => ha x (List.mem_of_mem_take hx)
 refine zbC (zfL hl h8 hn hd) ?_
 cases hr : zbT l n d with
 | false => exact zaV (by decide) stop
 | true =>
  refine zaJ rfl (zbC rfl (zbC (zfL hin (by rw [List.length_take]; omega) in0 in1) ?_))
  have e : zbT (at_.take 8) 0 1 = (at_.take 8).all (fun x => decide (Right x.f0 x.f1)) := by
   unfold zbT
   rw [decide_eq_true (by rw [List.length_take]; omega), decide_eq_true zfM, Bool.true_and, Bool.true_and]
  rw [e, Bool.true_and]
  cases hb : (at_.take 8).all (fun x => decide (Right x.f0 x.f1)) with
  | false => exact stop
  | true =>
   obtain ⟨hl8, _, _⟩ := (zb6 _ _ _).1 hr
   rw [if_pos rfl]
   refine Ev.step (fun k => by rw [zaM.j0]) (zaV (by decide) ?_)
   rw [zgY]
   refine zaJ (by omega) (zaJ (by omega) (zbC rfl ?_))
   rw [Int.toNat_natCast]
   have := tv_l0 (at_.take 8) (l.take (min l.length (at_.take 8).length)) (by rw [List.length_take]; omega) (by rw [List.length_take]; omega) hin (fun x hx => hl x (List.mem_of_mem_take hx)) _ 0 n d hn hd (Nat.zero_add _)
   rw [List.drop_zero, zeY, zek l at_ 8 hl8] at this
   exact this
theorem zfl (b : Bool) : Ev (fun k => zal.j2 k b) b := Ev.step (fun k => by rw [zal.j2]) (Ev.now _)
theorem zfA {l0 l1 at_ : List (S24)} {n0 d0 n1 d1 : Int} (h0 : zb9 l0) (k0 : l0.length ≤ 12) (a0 : In64 n0) (b0 : In64 d0) (h1 : zb9 l1) (k1 : l1.length ≤ 12) (a1 : In64 n1) (b1 : In64 d1) (ha : zb9 at_) (hk : at_.length ≤ 12) :
  Ev (fun k => zal.j0 k at_ false l0 n0 d0 l1 n1 d1) true := by
 have hs := add_in (l0 := l0) (l1 := l1) (n0 := n0) (d0 := d0) (n1 := n1) (d1 := d1)
 have hso := add_ok (l0 := l0) (l1 := l1) (n0 := n0) (d0 := d0) (n1 := n1) (d1 := d1)
 have cs : zb3.f l0 n0 d0 l1 n1 d1 = some (addT l0 n0 d0 l1 n1 d1) := by
  unfold zb3.f; rw [if_pos ⟨⟨h0, by omega, a0, b0⟩, h1, by omega, a1, b1⟩]
 generalize addT l0 n0 d0 l1 n1 d1 = s at hs hso cs
 have hv := zg8 hs.1 (by have := hs.2.1; omega) hs.2.2.1 hs.2.2.2 ha (by omega)
 have hvo := zdZ (l := s.1) (n := s.2.1) (d := s.2.2.1) (at_ := at_) hs.2.2.1 hs.2.2.2
 have hx := zg8 h0 (by omega) a0 b0 ha (by omega)
 have hy := rv_ev h0 (by omega) a0 b0 ha (by omega)
 have hxi := zeZ (l := l0) (n := n0) (d := d0) (at_ := at_) a0 b0
 have hxo := zdZ (l := l0) (n := n0) (d := d0) (at_ := at_) a0 b0
 have hz := zg8 h1 (by omega) a1 b1 ha (by omega)
 have hzi := zeZ (l := l1) (n := n1) (d := d1) (at_ := at_) a1 b1
 have hzo := zdZ (l := l1) (n := n1) (d := d1) (at_ := at_) a1 b1
 generalize zcv l0 n0 d0 at_ = x at hx hy hxi hxo
 generalize zcv l1 n1 d1 at_ = z at hz hzi hzo
 generalize zcv s.1 s.2.1 s.2.2.1 at_ = v at hv hvo
 have last : Ev (fun k => zal.j1 k at_ x.2.2 false l0 n0 d0 l1 n1 d1 x.1 x.2.1) true := by
  refine Ev.step (fun k => by rw [zal.j1]) (zaV (by decide) (Ev.bind hz (zbC cs (Ev.bind hv (zbC (ze5 hxi hzi) ?_)))))
  by_cases e1 : x.2.2 = 0
  rotate_left
  ·exact zaV e1 (zfl true)
  refine zaJ e1 ?_
  by_cases e2 : z.2.2 = 0
  rotate_left
  ·exact zaV e2 (zfl true)
  refine zaJ e2 ?_
  by_cases e3 : s.2.2.2 = 0
  rotate_left
  ·exact zaV e3 (zfl true)
  refine zaJ e3 ?_
  by_cases e4 : v.2.2 = 0
  rotate_left
  ·exact zaV e4 (zfl true)
  refine zaJ e4 ?_
  by_cases e5 : (addS x.1 x.2.1 z.1 z.2.1).2.2 = 0
  rotate_left
  ·exact zaV e5 (zfl true)
  refine zaJ e5 ?_
  obtain ⟨_, _, gs⟩ := hso e3
  have ox := hxo e1
  have oz := hzo e2
  have ov := hvo e4
  have e : v = addS x.1 x.2.1 z.1 z.2.1 := by
   have rx : Right x.1 x.2.1 ∧ q x.1 x.2.1 = V l0 n0 d0 0 + sumV (fun i => V l0 n0 d0 (i + 1)) at_ := by
    have := zd5 (x := V l0 n0 d0 0 + sumV (fun i => V l0 n0 d0 (i + 1)) at_) (by rw [← ox]; exact e1)
    rw [← ox] at this; exact this
   have rz : Right z.1 z.2.1 ∧ q z.1 z.2.1 = V l1 n1 d1 0 + sumV (fun i => V l1 n1 d1 (i + 1)) at_ := by
    have := zd5 (x := V l1 n1 d1 0 + sumV (fun i => V l1 n1 d1 (i + 1)) at_) (by rw [← oz]; exact e2)
    rw [← oz] at this; exact this
   rw [zed rx.1 rz.1, rx.2, rz.2, ov]
   have p := gs.2.2.2.2
   have p0 : V s.1 s.2.1 s.2.2.1 0 = V l0 n0 d0 0 + V l1 n1 d1 0 := p 0
   have p1 : (fun i => V s.1 s.2.1 s.2.2.1 (i + 1)) = (fun i => V l0 n0 d0 (i + 1) + V l1 n1 d1 (i + 1)) := by funext i; exact p (i + 1)
   rw [p0, p1, ze2]
   congr 1
   grind
  rw [← e]
  have := zfl (v.1 == v.1 && (v.2.1 == v.2.1))
  rw [beq_self_eq_true, beq_self_eq_true] at this
  simpa using this
 refine Ev.step (fun k => by rw [zal.j0]) (zaV (by decide) (Ev.bind hx (Ev.bind hy (zaV (show ¬ ((!(x.1 == x.1) || (!(x.2.1 == x.2.1))) = true) by simp) ?_))))
 rw [bne_self_eq_false]
 exact last
theorem vals_holds (l0 : List (S24)) (n0 d0 : Int) (l1 : List (S24)) (n1 d1 : Int) (at_ : List (S24)) (h0 : zb9 l0) (a0 : In64 n0) (b0 : In64 d0) (h1 : zb9 l1) (a1 : In64 n1) (b1 : In64 d1) (ha : zb9 at_) : ∃ k, zal.f k l0 n0 d0 l1 n1 d1 at_ = some true := by
 refine PRat.zg6 (g := fun k => zal.f k l0 n0 d0 l1 n1 d1 at_) ?_
 unfold zal.f
 have stop : Ev (fun k => zal.j0 k at_ true l0 n0 d0 l1 n1 d1) true := Ev.step (fun k => by rw [zal.j0]) (zaJ rfl (Ev.bind zff (Ev.now _)))
 refine Ev.bind zff (zaJ rfl (zbC (zfJ l0 n0 d0) ?_))
 by_cases hk0 : (l0.length : Int) ≤ 12
 rotate_left
 ·exact zaV (by simpa using hk0) stop
 refine zaJ (decide_eq_true hk0) (zbC (zfJ l1 n1 d1) ?_)
 by_cases hk1 : (l1.length : Int) ≤ 12
 rotate_left
 ·exact zaV (by simpa using hk1) stop
 refine zaJ (decide_eq_true hk1) ?_
 by_cases hk2 : (at_.length : Int) > 12
 ·rw [decide_eq_true hk2]; exact stop
 ·rw [decide_eq_false hk2]
  exact zfA h0 (by omega) a0 b0 h1 (by omega) a1 b1 ha (by omega)
end Go.Proofs.YtijhnmbegceonaaDoor.PTerm
