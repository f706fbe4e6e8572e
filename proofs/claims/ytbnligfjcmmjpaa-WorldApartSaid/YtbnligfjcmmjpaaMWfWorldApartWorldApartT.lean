import Derived.Test.YtbnligfjcmmjpaaPWfWorldApartx1
import Derived.Test.YtbnligfjcmmjpaaPWfWorldApartx2
import Derived.Test.YtbnligfjcmmjpaaMWfWorldApartWorldT
namespace Go.Proofs.Ytbnligfjcmmjpaa.PWfWorldApart
open Go Go.RowKit Go.Proofs.YtbnligfjcmmjpaaW.PrintWords Go.Proofs.YtbnligfjcmmjpaaW.PrintLast Go.Proofs.YtbnligfjcmmjpaaW.PrintMore
attribute [local go_sem] max2_int min2_int max_two min_two max_three min_three max_four min_four
set_option linter.unusedVariables false
set_option linter.unusedSimpArgs false
theorem awake_k : ∃ k, ballcocklaw21_awake.f k = some true := Ev.rounds World21.awake_ev
theorem choose_any (l : List Int) (hl : l.length ≤ 10000) (u : Nat) (hu : u ≤ l.length) (n : Int) : ∃ (k : Nat) (r : Int) (u' : Nat), u' ≤ l.length ∧ world_World_Choose.f k l (u : Int) n = some (r, (u' : Int)) := by
  by_cases hn : n < 1
  · obtain ⟨k, hk⟩ := Ev.rounds (World21.choose_low l (u : Int) n hn)
    exact ⟨k, _, u, hu, hk⟩
  · by_cases he : u = l.length
    · subst he
      obtain ⟨k, hk⟩ := Ev.rounds (World21.choose_end l n)
      exact ⟨k, _, _, hu, hk⟩
    · by_cases ht : Int.tmod (rd l u) n < 0
      · obtain ⟨k, hk⟩ := Ev.rounds (World21.choose_neg l u n (by omega) (by omega) hl ht)
        exact ⟨k, _, u + 1, by omega, hk⟩
      · obtain ⟨k, hk⟩ := Ev.rounds (World21.choose_mid l u n (by omega) (by omega) hl (by omega))
        exact ⟨k, _, u + 1, by omega, hk⟩
set_option maxHeartbeats 2000000 in
set_option maxRecDepth 100000 in
theorem apart_main (A0 : Option Addr) (c0 : Nat) (l0 : List Int) (A1 : Option Addr) (c1 : Nat) (l1 : List Int) (w : World) (hr0 : Kd.C (Kd.int .i64) w A0 l0.length l0) (hc0 : l0.length ≤ c0) (hr1 : Kd.C (Kd.int .i64) w A1 l1.length l1) (hc1 : l1.length ≤ c1) (h0 : l0.length ≤ 60) (h1 : l1.length ≤ 60) :
    Calls Try.prog 5 #[.slice A0 l0.length c0, .slice A1 l1.length c1] w fun e w' => e = .returned (.bool true) ∧ Below w.heap.size w w' := by
  obtain ⟨ka, hka⟩ := awake_k
  have HR0 := Aside0.mk hr0
  have HR1 := Aside0.mk hr1
  clear hr0 hr1
  have d0 : decide (60 < (l0.length : Int)) = false := decide_eq_false (by omega)
  have d1 : decide (60 < (l1.length : Int)) = false := decide_eq_false (by omega)
  have H0 := Aside0.mk h0
  have H1 := Aside0.mk h1
  clear h0 h1
  go_enter Try.func5, Try.ntmps5
  go_wp2_with (first | ((with_reducible refine gate_callee (f := 15) rfl ?_); refine goesL_ _ rfl rfl Try.func15 (by kernel_rfl) rfl #[] rfl (by (try simp only [List.map_toArray, List.map_cons, List.map_nil]); first | done | rfl) ?_; (with_reducible refine (ballcocklaw21_awake.calls ka true _ hka).mono ?_); rintro e w1 ⟨rfl, hb1⟩; refine ⟨_, rfl, ?_⟩))
  have HB1 := Aside0.mk hb1
  clear hb1
  refine (new_here A0 c0 l0 w1 (Kd.C_below HR0.out HB1.out) hc0 (by have := H0.out; omega)).mono ?_
  rintro e w2 ⟨ga, rfl, hIa2, hb2⟩
  have HB2 := Aside0.mk (below_step HB1.out hb2)
  have HI2 := Aside0.mk hIa2
  have HS2 := Aside0.mk hb2
  clear hIa2 hb2
  go_wp2_with (fail)
  refine (new_here A0 c0 l0 w2 (Kd.C_below HR0.out HB2.out) hc0 (by have := H0.out; omega)).mono ?_
  rintro e w3 ⟨gb, rfl, hIb3, hb3⟩
  have HB3 := Aside0.mk (below_step HB2.out hb3)
  have HIA3 := Aside0.mk (IsS86.below HI2.out hb3)
  have HIB3 := Aside0.mk hIb3
  have HS3 := Aside0.mk hb3
  clear hIb3 hb3
  go_wp2_with (fail)
  refine (new_here A1 c1 l1 w3 (Kd.C_below HR1.out HB3.out) hc1 (by have := H1.out; omega)).mono ?_
  rintro e w4 ⟨gc, rfl, hIc4, hb4⟩
  have HB4 := Aside0.mk (below_step HB3.out hb4)
  have HIA4 := Aside0.mk (IsS86.below HIA3.out hb4)
  have HIB4 := Aside0.mk (IsS86.below HIB3.out hb4)
  have HIC4 := Aside0.mk hIc4
  have E1 := Aside0.mk (show w1.heap.size ≤ ga ∧ ga < w2.heap.size ∧ w2.heap.size ≤ gb ∧ gb < w3.heap.size ∧ w3.heap.size ≤ gc ∧ w.heap.size ≤ w1.heap.size from ⟨HI2.out.ge, HI2.out.lt, HIB3.out.ge, HIB3.out.lt, hIc4.ge, HB1.out.size⟩)
  clear hIc4 hb4
  go_wp2_with (fail)
  obtain ⟨kk, hkk⟩ : ∃ k : Nat, k = l1.length + 1 := ⟨_, rfl⟩
  go_loopg [8] kk (fun kq v8 w' => ∃ (i u uc : Nat), v8 = .int .i64 (i : Int) ∧ Aside0 (i ≤ l1.length ∧ l1.length < i + kq ∧ u ≤ l0.length ∧ uc ≤ l1.length) ∧ Aside0 (kq ≤ kk) ∧ Aside0 (Below w.heap.size w w') ∧ Aside0 (IsS86 w1 w' ga l0 (u : Int)) ∧ Aside0 (IsS86 w2 w' gb l0 (u : Int)) ∧ Aside0 (IsS86 w3 w' gc l1 (uc : Int)))
  case atStart => exact ⟨0, 0, 0, rfl, ⟨by omega⟩, ⟨Nat.le_refl _⟩, HB4, HIA4, HIB4, HIC4⟩
  case round =>
    obtain ⟨i, u, uc, rfl, HN, HK, HB, HA, HBB, HC⟩ := hrel
    cases gk with
    | zero => exact absurd HN.out (by omega)
    | succ k1 =>
      by_cases hi : i < l1.length
      · have d2 : decide ((i : Int) < (l1.length : Int)) = true := decide_eq_true (by omega)
        go_wp2_with (fail)
        have hE := E1.out
        have hN := HN.out
        have hL0 := H0.out
        have hL1 := H1.out
        have g1 : w.heap.size ≤ w1.heap.size := by omega
        have g2 : w.heap.size ≤ w2.heap.size := by omega
        have g3 : w.heap.size ≤ w3.heap.size := by omega
        obtain ⟨q1, r1, uc1, hu1, hc1_⟩ := choose_any l1 (by omega) uc (by omega) 3
        refine (gen_Choose q1 gc l1 uc 3 r1 uc1 w3 w wr g3 HC.out HB.out hc1_).mono ?_
        rintro e wa ⟨rfl, hCa, hBa, hKa⟩
        have HCa := Aside0.mk hCa
        have HBa := Aside0.mk hBa
        have HAa := Aside0.mk (HA.out.frame hKa (by omega))
        have HBBa := Aside0.mk (HBB.out.frame hKa (by omega))
        clear hCa hBa hKa
        have p1 : 0 ≤ (i : Int) := by omega
        have q2 : (i : Int) < (l1.length : Int) := by omega
        obtain ⟨ad, e1, hx⟩ := Kd.at_int (Kd.C_below HR1.out HBa.out) (i : Int) p1 q2
        cases e1
        simp only [Int.toNat_natCast] at hx
        have p1' := eq_true p1
        have q2' := eq_true q2
        go_wp2_with (fail)
        obtain ⟨qk, rk, u1, huu, hck⟩ := choose_any l0 (by omega) u (by omega) (rd l1 (i : Int))
        refine (gen_Choose qk ga l0 u (rd l1 (i : Int)) rk u1 w1 w _ g1 HAa.out HBa.out hck).mono ?_
        rintro e wb ⟨rfl, hAb, hBb, hKb⟩
        have HAb := Aside0.mk hAb
        have HBb := Aside0.mk hBb
        have HBBb := Aside0.mk (HBBa.out.frame hKb (by omega))
        have HCb := Aside0.mk (HCa.out.frame hKb (by omega))
        clear hAb hBb hKb hx
        go_wp2_with (fail)
        obtain ⟨q2_, r2_, uc2, hu2, hc2_⟩ := choose_any l1 (by omega) uc1 (by omega) 1
        refine (gen_Choose q2_ gc l1 uc1 1 r2_ uc2 w3 w _ g3 HCb.out HBb.out hc2_).mono ?_
        rintro e wc ⟨rfl, hCc, hBc, hKc⟩
        have HCc := Aside0.mk hCc
        have HBc := Aside0.mk hBc
        have HAc := Aside0.mk (HAb.out.frame hKc (by omega))
        have HBBc := Aside0.mk (HBBb.out.frame hKc (by omega))
        clear hCc hBc hKc
        obtain ⟨ad2, e2, hx2⟩ := Kd.at_int (Kd.C_below HR1.out HBc.out) (i : Int) p1 q2
        cases e2
        simp only [Int.toNat_natCast] at hx2
        go_wp2_with (fail)
        refine (gen_Choose qk gb l0 u (rd l1 (i : Int)) rk u1 w2 w _ g2 HBBc.out HBc.out hck).mono ?_
        rintro e wd ⟨rfl, hBBd, hBd, hKd⟩
        have HBBd := Aside0.mk hBBd
        have HBd := Aside0.mk hBd
        have HAd := Aside0.mk (HAc.out.frame hKd (by omega))
        have HCd := Aside0.mk (HCc.out.frame hKd (by omega))
        clear hBBd hBd hKd hx2
        go_wp2_with (fail)
        have hw : (wrap64 ((u1 : Int) + wrap64 ((l0.length : Int) - (u1 : Int))) != (l0.length : Int)) = false := by
          rw [w64 (x := (l0.length : Int) - (u1 : Int)) (by omega) (by omega), w64 (by omega) (by omega)]
          simp only [bne_eq_false_iff_eq]
          omega
        refine (gen_Left ga l0 u1 _ _ w1 w _ g1 HAd.out HBd.out rfl).mono ?_
        rintro e vx ⟨rfl, hX, hY, hZ⟩
        have HAx := Aside0.mk hX
        have HWx := Aside0.mk hY
        have HBx := Aside0.mk (HBBd.out.frame hZ (by omega))
        have HCx := Aside0.mk (HCd.out.frame hZ (by omega))
        clear hX hY hZ
        go_wp2_with (fail)
        refine (gen_Left gb l0 u1 _ _ w2 w _ g2 HBx.out HWx.out rfl).mono ?_
        rintro e vy ⟨rfl, hX, hY, hZ⟩
        have HBy := Aside0.mk hX
        have HWy := Aside0.mk hY
        have HAy := Aside0.mk (HAx.out.frame hZ (by omega))
        have HCy := Aside0.mk (HCx.out.frame hZ (by omega))
        clear hX hY hZ
        go_wp2_with (fail)
        refine (gen_Used ga l0 u1 _ _ w1 w _ g1 HAy.out HWy.out rfl).mono ?_
        rintro e vz ⟨rfl, hX, hY, hZ⟩
        have HAz := Aside0.mk hX
        have HWz := Aside0.mk hY
        have HBz := Aside0.mk (HBy.out.frame hZ (by omega))
        have HCz := Aside0.mk (HCy.out.frame hZ (by omega))
        clear hX hY hZ
        go_wp2_with (fail)
        refine (gen_Left ga l0 u1 _ _ w1 w _ g1 HAz.out HWz.out rfl).mono ?_
        rintro e vt ⟨rfl, hX, hY, hZ⟩
        have HAt := Aside0.mk hX
        have HWt := Aside0.mk hY
        have HBt := Aside0.mk (HBz.out.frame hZ (by omega))
        have HCt := Aside0.mk (HCz.out.frame hZ (by omega))
        clear hX hY hZ
        go_wp2_with (fail)
        go_roundg k1
        case measure => have := HK.out; omega
        case rel => exact ⟨i + 1, u1, uc2, by first | rfl | (rw [wsucc i (by omega)]), ⟨by omega⟩, ⟨by have := HK.out; omega⟩, HWt, HAt, HBt, HCt⟩
      · have d2 : decide ((i : Int) < (l1.length : Int)) = false := decide_eq_false (by omega)
        go_wp2_with (fail)
        go_ret
        exact ⟨rfl, HB.out⟩
set_option maxHeartbeats 2000000 in
set_option maxRecDepth 100000 in
theorem apart_long (A0 : Option Addr) (c0 : Nat) (l0 : List Int) (A1 : Option Addr) (c1 : Nat) (l1 : List Int) (w : World) (h0 : 60 < l0.length ∨ 60 < l1.length) :
    Calls Try.prog 5 #[.slice A0 l0.length c0, .slice A1 l1.length c1] w fun e w' => e = .returned (.bool true) ∧ Below w.heap.size w w' := by
  obtain ⟨ka, hka⟩ := awake_k
  by_cases h : 60 < l0.length
  · have d0 : decide (60 < (l0.length : Int)) = true := decide_eq_true (by omega)
    clear h0 h
    go_enter Try.func5, Try.ntmps5
    go_wp2_with (fail)
    refine (ballcocklaw21_awake.calls ka true _ hka).mono ?_
    rintro e w1 ⟨rfl, hb1⟩
    go_wp2_with (fail)
    refine (ballcocklaw21_awake.calls ka true _ hka).mono ?_
    rintro e w2 ⟨rfl, hb2⟩
    go_wp2_with (fail)
    go_ret
    exact ⟨rfl, below_step hb1 hb2⟩
  · have d0 : decide (60 < (l0.length : Int)) = false := decide_eq_false (by omega)
    have d1 : decide (60 < (l1.length : Int)) = true := decide_eq_true (by omega)
    clear h0 h
    go_enter Try.func5, Try.ntmps5
    go_wp2_with (fail)
    refine (ballcocklaw21_awake.calls ka true _ hka).mono ?_
    rintro e w1 ⟨rfl, hb1⟩
    go_wp2_with (fail)
    refine (ballcocklaw21_awake.calls ka true _ hka).mono ?_
    rintro e w2 ⟨rfl, hb2⟩
    go_wp2_with (fail)
    go_ret
    exact ⟨rfl, below_step hb1 hb2⟩
theorem apart_calls (A0 : Option Addr) (c0 : Nat) (l0 : List Int) (A1 : Option Addr) (c1 : Nat) (l1 : List Int) (w : World) (hr0 : Kd.C (Kd.int .i64) w A0 l0.length l0) (hc0 : l0.length ≤ c0) (hr1 : Kd.C (Kd.int .i64) w A1 l1.length l1) (hc1 : l1.length ≤ c1) :
    Calls Try.prog 5 #[.slice A0 l0.length c0, .slice A1 l1.length c1] w fun e w' => e = .returned (.bool true) ∧ Below w.heap.size w w' := by
  by_cases h : 60 < l0.length ∨ 60 < l1.length
  · exact apart_long A0 c0 l0 A1 c1 l1 w h
  · exact apart_main A0 c0 l0 A1 c1 l1 w hr0 hc0 hr1 hc1 (by omega) (by omega)
theorem apart_walk (a0 : Option Addr) (len0 cap0 : Nat) (z0 : List Int) (a1 : Option Addr) (len1 cap1 : Nat) (z1 : List Int) (w : World) (w0 : (a0 = none ∧ len0 = 0 ∧ cap0 = 0 ∧ z0 = []) ∨ ∃ x, a0 = some x ∧ len0 ≤ cap0 ∧ cap0 ≤ maxLen ∧ z0.length = cap0 ∧ (∀ i, i < z0.length → w.cell? (x.add i) = some (.int .i64 (z0.getD i 0))) ∧ ∀ n ∈ z0, (Lit.int .i64 n).wf = true) (w1 : (a1 = none ∧ len1 = 0 ∧ cap1 = 0 ∧ z1 = []) ∨ ∃ x, a1 = some x ∧ len1 ≤ cap1 ∧ cap1 ≤ maxLen ∧ z1.length = cap1 ∧ (∀ i, i < z1.length → w.cell? (x.add i) = some (.int .i64 (z1.getD i 0))) ∧ ∀ n ∈ z1, (Lit.int .i64 n).wf = true) :
    Calls Try.prog 5 #[.slice a0 len0 cap0, .slice a1 len1 cap1] w fun e w' => e = .returned (.bool true) ∧ Below w.heap.size w w' := by
  obtain ⟨l0, rfl, hr0, hm0, hw0, hc0⟩ := ReadsInt.ofRowC w0
  obtain ⟨l1, rfl, hr1, hm1, hw1, hc1⟩ := ReadsInt.ofRowC w1
  exact apart_calls _ _ l0 _ _ l1 w (Kd.C_of_reads (d := (0 : Int)) (h1 := fun _ => rfl) hr0) hc0 (Kd.C_of_reads (d := (0 : Int)) (h1 := fun _ => rfl) hr1) hc1
end Go.Proofs.Ytbnligfjcmmjpaa.PWfWorldApart
