import Derived.Test.YtfcehcjhilmlgaaSa8
section
set_option linter.all false
set_option maxRecDepth 100000
namespace Go.E
open Go Go.Proofs Go.Eng
variable {TB : Nat → Option Obj}
theorem m_gauss_system_take_ev (a0 : TGauss_system) (a1 : Int) (a2 : Int) (r0 : TGauss_system) (h : m_gauss_system_take a0 a1 a2 = some r0) (d : Nat) (G : Heap) (e0 t0 t0_0 : Nat) (he0 : e0 ≤ d) (hGt0 : G e0 t0 = [.box [arV ((a0.f0 : List TGauss_row).map cTGauss_row) (e0, t0_0, 0) 4, .p (.bool a0.f1)]]) (hGt0_0 : G e0 t0_0 = arO ((a0.f0 : List TGauss_row).map cTGauss_row)) (hnt0t0_0 : (t0 = t0_0) = False) (hnt0_0t0 : (t0_0 = t0) = False) : Tel Try.prog TB d 96 [.bp (e0, t0, 0) 0, .p (.int .i64 a1), .p (.int .i64 a2)] G (.tup []) (fillKey (fillKey (G) e0 t0 ([.box [arV ((r0.f0 : List TGauss_row).map cTGauss_row) (e0, t0_0, 0) 4, .p (.bool r0.f1)]])) e0 t0_0 (arO ((r0.f0 : List TGauss_row).map cTGauss_row))) := by
  unfold m_gauss_system_take at h
  refine Tel.intro mix Try.func96 rfl (Nat.le_of_ble_eq_true rfl) {openAt := fun t => t == 49 || t == 95 || t == 113, drwAt := fun t => t == 49 || t == 113, frzAt := fun t => t == 24 || t == 25 || t == 72 || t == 110, also := fun t => if t = 49 then [8] else [], watch := fun t => if t = 113 then [103] else [], wkey := fun t => if t = 103 then some ((e0, t0, 0), 0) else none, boxAt := fun t => if t = 6 then some 6 else if t = 8 then some 8 else if t = 12 then some 12 else if t = 107 then some 10 else none, clean := fun r => if r = 5 then [10, 11, 12] else []} (by kernel_rfl) (by kernel_rfl) ?_
  have le0 : (e0 ≤ d + 1) = True := by simp; omega
  have qe0 : (e0 = d + 1) = False := by simp; omega
  have pe0 : (d + 1 = e0) = False := by simp; omega
  have wt0t0_0 := fk_swap (a := e0) (b := t0_0) (a' := e0) (b' := t0) (fun x => by rw [← hnt0_0t0]; exact x.2)
  refine gwp_heap (H' := fillKey (fillKey (cut d G) e0 t0 [.box [arV ((a0.f0 : List TGauss_row).map cTGauss_row) (e0, t0_0, 0) 4, .p (.bool a0.f1)]]) e0 t0_0 (arO ((a0.f0 : List TGauss_row).map cTGauss_row))) ?_ ?_
  · rw [fill_self (B := cut d G) (a := e0) (b := t0) (by rw [cut_app, if_pos he0]; exact hGt0), fill_self (B := cut d G) (a := e0) (b := t0_0) (by rw [cut_app, if_pos he0]; exact hGt0_0)]
  generalize hQ : callPost _ _ _ _ _ = Q
  obtain ⟨_, c1, h⟩ := bs h
  replace c1 := rqs c1
  obtain ⟨_, c2, h⟩ := bs h
  replace c2 := rqs c2
  have c3 := ne_of_idx c1 c2
  obtain ⟨v4, hv4, h⟩ := bs h
  replace hv4 := gis hv4
  obtain ⟨r5, hr5, h⟩ := bs h
  simp -implicitDefEqProofs only [go_sem, Nat.reduceEqDiff, Nat.reduceAdd, Nat.reduceLT, Nat.reduceLeDiff, Nat.reduceMul, Nat.reduceBEq, reduceIte, he0, le0, qe0, pe0, hnt0t0_0, hnt0_0t0, wt0t0_0, c1, c2, c3, hv4]
  refine call_frz (r' := .agg [.p (.int .i64 r5.f0), .p (.int .i64 r5.f1)]) (m_term_At_ev v4.f0 a2 r5 hr5 (d + 1) empty) (by simp -implicitDefEqProofs only [go_sem, Nat.reduceEqDiff, Nat.reduceAdd, Nat.reduceLT, Nat.reduceLeDiff, Nat.reduceMul, Nat.reduceBEq, reduceIte, he0, le0, qe0, pe0, hnt0t0_0, hnt0_0t0, wt0t0_0, c1, c2, c3, hv4]) rfl (by simp -implicitDefEqProofs only [go_sem, Nat.reduceEqDiff, Nat.reduceAdd, Nat.reduceLT, Nat.reduceLeDiff, Nat.reduceMul, Nat.reduceBEq, reduceIte]) (by simp -implicitDefEqProofs only [go_sem, Nat.reduceEqDiff, Nat.reduceAdd, Nat.reduceLT, Nat.reduceLeDiff, Nat.reduceMul, Nat.reduceBEq, reduceIte]) ?_ rfl rfl
  obtain ⟨r6, hr6, h⟩ := bs h
  simp -implicitDefEqProofs only [go_sem, Nat.reduceEqDiff, Nat.reduceAdd, Nat.reduceLT, Nat.reduceLeDiff, Nat.reduceMul, Nat.reduceBEq, reduceIte, he0, le0, qe0, pe0, hnt0t0_0, hnt0_0t0, wt0t0_0, c1, c2, c3, hv4]
  refine call_frz (r' := .tup [.agg [.p (.int .i64 r6.1.f0), .p (.int .i64 r6.1.f1)], .p (.int .i64 r6.2)]) (m_rat_Div_ev (⟨1, 1⟩ : TRat) r5 r6 hr6 (d + 1) empty) (by simp -implicitDefEqProofs only [go_sem, Nat.reduceEqDiff, Nat.reduceAdd, Nat.reduceLT, Nat.reduceLeDiff, Nat.reduceMul, Nat.reduceBEq, reduceIte, he0, le0, qe0, pe0, hnt0t0_0, hnt0_0t0, wt0t0_0, c1, c2, c3, hv4]) rfl (by simp -implicitDefEqProofs only [go_sem, Nat.reduceEqDiff, Nat.reduceAdd, Nat.reduceLT, Nat.reduceLeDiff, Nat.reduceMul, Nat.reduceBEq, reduceIte]) (by simp -implicitDefEqProofs only [go_sem, Nat.reduceEqDiff, Nat.reduceAdd, Nat.reduceLT, Nat.reduceLeDiff, Nat.reduceMul, Nat.reduceBEq, reduceIte]) ?_ rfl rfl
  simp -implicitDefEqProofs only [go_sem, Nat.reduceEqDiff, Nat.reduceAdd, Nat.reduceLT, Nat.reduceLeDiff, Nat.reduceMul, Nat.reduceBEq, reduceIte, he0, le0, qe0, pe0, hnt0t0_0, hnt0_0t0, wt0t0_0, c1, c2, c3, hv4]
  obtain ⟨v7, hz, h⟩ := bs h
  obtain ⟨R8, hR8⟩ : ∃ R : St → Prop, R = fun s => s.G = fillKey (fillKey (fillKey (cut d G) e0 t0 [.box [arV ((a0.f0 : List TGauss_row).map cTGauss_row) (e0, t0_0, 0) 4, .p (.bool v7)]]) e0 t0_0 (arO ((a0.f0 : List TGauss_row).map cTGauss_row))) (d + 1) 6 [.box [.p (.int .i64 r6.1.f0), .p (.int .i64 r6.1.f1)]] ∧ s.F 0 = .bp (e0, t0, 0) 0 ∧ s.F 1 = .p (.int .i64 a1) ∧ s.F 2 = .p (.int .i64 a2) ∧ s.F 6 = .bp (d + 1, 6, 0) 0 ∧ True := ⟨_, rfl⟩
  refine cutR R8 ?_ ?_
  · replace h := hz
    rcases ib h with ⟨c9, h⟩ | ⟨c9, h⟩
    · cases h
      simp -implicitDefEqProofs only [go_sem, Nat.reduceEqDiff, Nat.reduceAdd, Nat.reduceLT, Nat.reduceLeDiff, Nat.reduceMul, Nat.reduceBEq, reduceIte, he0, le0, qe0, pe0, hnt0t0_0, hnt0_0t0, wt0t0_0, c1, c2, c3, hv4, c9]
      rw [hR8]
      simp -implicitDefEqProofs only [go_sem, Nat.reduceEqDiff, Nat.reduceAdd, Nat.reduceLT, Nat.reduceLeDiff, Nat.reduceMul, Nat.reduceBEq, reduceIte, he0, le0, qe0, pe0, hnt0t0_0, hnt0_0t0, wt0t0_0, c1, c2, c3, hv4, c9]
    · cases h
      simp -implicitDefEqProofs only [go_sem, Nat.reduceEqDiff, Nat.reduceAdd, Nat.reduceLT, Nat.reduceLeDiff, Nat.reduceMul, Nat.reduceBEq, reduceIte, he0, le0, qe0, pe0, hnt0t0_0, hnt0_0t0, wt0t0_0, c1, c2, c3, hv4, c9]
      rw [hR8]
      simp -implicitDefEqProofs only [go_sem, Nat.reduceEqDiff, Nat.reduceAdd, Nat.reduceLT, Nat.reduceLeDiff, Nat.reduceMul, Nat.reduceBEq, reduceIte, he0, le0, qe0, pe0, hnt0t0_0, hnt0_0t0, wt0t0_0, c1, c2, c3, hv4, c9]
  · replace h := h; clear hz
    rintro s i
    rw [hR8] at i
    obtain ⟨gi10, i10⟩ := i
    clear hR8
    try dsimp only at h
    obtain ⟨r11, hr11, h⟩ := bs h
    simp -implicitDefEqProofs only [go_sem, Nat.reduceEqDiff, Nat.reduceAdd, Nat.reduceLT, Nat.reduceLeDiff, Nat.reduceMul, Nat.reduceBEq, reduceIte, he0, le0, qe0, pe0, hnt0t0_0, hnt0_0t0, wt0t0_0, c1, c2, c3, hv4, gi10, i10]
    have cl12 : (r11.2.f0).length = ((a0.f0 : List TGauss_row)).length := by have := len_times hr11; (try simp only [List.length_set] at this); first | exact this | exact this.trans rfl
    have cv12 := arV_len (c := cTGauss_row) (κ := (e0, t0_0, 0)) (n := 4) cl12
    have ce12 := nil_len cl12
    refine call_drwL (t0 := 999) (r := .agg [.p (.sl (r11.1.f0.map cTRat)), .p (.int .i64 r11.1.f1.f0), .p (.int .i64 r11.1.f1.f1)]) [(e0, t0, [.box [arV ((r11.2.f0 : List TGauss_row).map cTGauss_row) (e0, t0_0, 0) 4, .p (.bool r11.2.f1)]]), (e0, t0_0, arO ((r11.2.f0 : List TGauss_row).map cTGauss_row))] (fun H => m_gauss_system_times_ev (⟨a0.f0, v7⟩ : TGauss_system) v4.f0 r6.1 r11 hr11 (d + 1) _ e0 t0 t0_0 (Nat.le_succ_of_le he0) (by simp -implicitDefEqProofs only [go_sem, Nat.reduceEqDiff, Nat.reduceAdd, Nat.reduceLT, Nat.reduceLeDiff, Nat.reduceMul, Nat.reduceBEq, reduceIte, he0, le0, qe0, pe0, hnt0t0_0, hnt0_0t0, wt0t0_0, c1, c2, c3, hv4, gi10, i10]) (by simp -implicitDefEqProofs only [go_sem, Nat.reduceEqDiff, Nat.reduceAdd, Nat.reduceLT, Nat.reduceLeDiff, Nat.reduceMul, Nat.reduceBEq, reduceIte, he0, le0, qe0, pe0, hnt0t0_0, hnt0_0t0, wt0t0_0, c1, c2, c3, hv4, gi10, i10]) hnt0t0_0 hnt0_0t0) (by simp -implicitDefEqProofs only [go_sem, Nat.reduceEqDiff, Nat.reduceAdd, Nat.reduceLT, Nat.reduceLeDiff, Nat.reduceMul, Nat.reduceBEq, reduceIte, he0, le0, qe0, pe0, hnt0t0_0, hnt0_0t0, wt0t0_0, c1, c2, c3, hv4, gi10, i10, cl12, cv12, ce12]) rfl (by simp -implicitDefEqProofs only [go_sem, Nat.reduceEqDiff, Nat.reduceAdd, Nat.reduceLT, Nat.reduceLeDiff, Nat.reduceMul, Nat.reduceBEq, reduceIte, he0, le0, qe0, pe0, hnt0t0_0, hnt0_0t0, wt0t0_0, c1, c2, c3, hv4, gi10, i10, cl12, cv12, ce12]) (by simp -implicitDefEqProofs only [go_sem, Nat.reduceEqDiff, Nat.reduceAdd, Nat.reduceLT, Nat.reduceLeDiff, Nat.reduceMul, Nat.reduceBEq, reduceIte, he0, le0, qe0, pe0, hnt0t0_0, hnt0_0t0, wt0t0_0, c1, c2, c3, hv4, gi10, i10, cl12, cv12, ce12]) (by simp -implicitDefEqProofs only [go_sem, Nat.reduceEqDiff, Nat.reduceAdd, Nat.reduceLT, Nat.reduceLeDiff, Nat.reduceMul, Nat.reduceBEq, reduceIte]) (by simp -implicitDefEqProofs only [go_sem, Nat.reduceEqDiff, Nat.reduceAdd, Nat.reduceLT, Nat.reduceLeDiff, Nat.reduceMul, Nat.reduceBEq, reduceIte, he0, le0, qe0, pe0, hnt0t0_0, hnt0_0t0, wt0t0_0, c1, c2, c3, hv4, gi10, i10, cl12, cv12, ce12]) (by simp -implicitDefEqProofs only [go_sem, Nat.reduceEqDiff, Nat.reduceAdd, Nat.reduceLT, Nat.reduceLeDiff, Nat.reduceMul, Nat.reduceBEq, reduceIte, he0, le0, qe0, pe0, hnt0t0_0, hnt0_0t0, wt0t0_0, c1, c2, c3, hv4, gi10, i10, cl12, cv12, ce12]) (by simp -implicitDefEqProofs only [go_sem, Nat.reduceEqDiff, Nat.reduceAdd, Nat.reduceLT, Nat.reduceLeDiff, Nat.reduceMul, Nat.reduceBEq, reduceIte]) (by simp -implicitDefEqProofs only [go_sem, Nat.reduceEqDiff, Nat.reduceAdd, Nat.reduceLT, Nat.reduceLeDiff, Nat.reduceMul, Nat.reduceBEq, reduceIte]) ?_
    obtain ⟨v13, hv13, h⟩ := bs h
    replace hv13 := gis hv13
    simp -implicitDefEqProofs only [go_sem, Nat.reduceEqDiff, Nat.reduceAdd, Nat.reduceLT, Nat.reduceLeDiff, Nat.reduceMul, Nat.reduceBEq, reduceIte, he0, le0, qe0, pe0, hnt0t0_0, hnt0_0t0, wt0t0_0, c1, c2, c3, hv4, gi10, i10, cl12, cv12, ce12, hv13]
    obtain ⟨z20, hL20, h⟩ := bs h
    obtain ⟨I20, hI20⟩ : ∃ I : (Int × Bool × (List TGauss_row)) → St → Prop, I = fun a s => match a with | (v21, v22, v23) => s.G = fillKey (fillKey (fillKey (fillKey (cut d G) e0 t0 [.box [arV ((v23 : List TGauss_row).map cTGauss_row) (e0, t0_0, 0) 4, .p (.bool v22)]]) e0 t0_0 (arO ((v23 : List TGauss_row).map cTGauss_row))) (d + 1) 6 [.box [.p (.int .i64 r6.1.f0), .p (.int .i64 r6.1.f1)]]) (d + 1) 8 [.box [.p (.sl (r11.1.f0.map cTRat)), .p (.int .i64 r11.1.f1.f0), .p (.int .i64 r11.1.f1.f1)]] ∧ s.F 0 = .bp (e0, t0, 0) 0 ∧ s.F 1 = .p (.int .i64 a1) ∧ s.F 2 = .p (.int .i64 a2) ∧ s.F 8 = .bp (d + 1, 8, 0) 0 ∧ s.F 62 = arV ((v23 : List TGauss_row).map cTGauss_row) (e0, t0_0, 0) 4 ∧ s.F 63 = .p (.int .i64 (a0.f0.length : Int)) ∧ s.F 64 = .p (.int .i64 v21) ∧ True := ⟨_, rfl⟩
    obtain ⟨R20, hR20⟩ : ∃ R : (Bool × (List TGauss_row)) → GE → St → Prop, R = fun x e s => match x with | (v24, v25) => e = .exit 0 ∧ s.G = fillKey (fillKey (fillKey (fillKey (cut d G) e0 t0 [.box [arV ((v25 : List TGauss_row).map cTGauss_row) (e0, t0_0, 0) 4, .p (.bool v24)]]) e0 t0_0 (arO ((v25 : List TGauss_row).map cTGauss_row))) (d + 1) 6 [.box [.p (.int .i64 r6.1.f0), .p (.int .i64 r6.1.f1)]]) (d + 1) 8 [.box [.p (.sl (r11.1.f0.map cTRat)), .p (.int .i64 r11.1.f1.f0), .p (.int .i64 r11.1.f1.f1)]] ∧ True := ⟨_, rfl⟩
    refine lp (ts := [10, 11, 12]) rfl hL20 I20 R20 ?_ ?_ ?_
    · rw [hI20]
      simp -implicitDefEqProofs only [go_sem, Nat.reduceEqDiff, Nat.reduceAdd, Nat.reduceLT, Nat.reduceLeDiff, Nat.reduceMul, Nat.reduceBEq, reduceIte, he0, le0, qe0, pe0, hnt0t0_0, hnt0_0t0, wt0t0_0, c1, c2, c3, hv4, gi10, i10, cl12, cv12, ce12, hv13]
    · clear h hL20
      rintro ⟨v21, v22, v23⟩ y s h i
      rw [hI20] at i
      obtain ⟨gi20, i20⟩ := i
      replace h : m_gauss_system_take_L0 a0 a2 a1 r11 (v21, v22, v23) = some y := h
      unfold m_gauss_system_take_L0 at h
      rcases ib h with ⟨c26, h⟩ | ⟨c26, h⟩
      · obtain ⟨_, c27, h⟩ := bs h
        replace c27 := rqs c27
        obtain ⟨_, c28, h⟩ := bs h
        replace c28 := rqs c28
        have c29 := ne_of_idx c27 c28
        obtain ⟨v30, hv30, h⟩ := bs h
        replace hv30 := gis hv30
        obtain ⟨r31, hr31, h⟩ := bs h
        simp -implicitDefEqProofs only [go_sem, Nat.reduceEqDiff, Nat.reduceAdd, Nat.reduceLT, Nat.reduceLeDiff, Nat.reduceMul, Nat.reduceBEq, reduceIte, he0, le0, qe0, pe0, hnt0t0_0, hnt0_0t0, wt0t0_0, c1, c2, c3, hv4, gi10, i10, cl12, cv12, ce12, hv13, gi20, i20, c26, c27, c28, c29, hv30]
        refine call_frz (r' := .agg [.p (.int .i64 r31.f0), .p (.int .i64 r31.f1)]) (m_term_At_ev v30.f0 a2 r31 hr31 (d + 1) empty) (by simp -implicitDefEqProofs only [go_sem, Nat.reduceEqDiff, Nat.reduceAdd, Nat.reduceLT, Nat.reduceLeDiff, Nat.reduceMul, Nat.reduceBEq, reduceIte, he0, le0, qe0, pe0, hnt0t0_0, hnt0_0t0, wt0t0_0, c1, c2, c3, hv4, gi10, i10, cl12, cv12, ce12, hv13, gi20, i20, c26, c27, c28, c29, hv30]) rfl (by simp -implicitDefEqProofs only [go_sem, Nat.reduceEqDiff, Nat.reduceAdd, Nat.reduceLT, Nat.reduceLeDiff, Nat.reduceMul, Nat.reduceBEq, reduceIte]) (by simp -implicitDefEqProofs only [go_sem, Nat.reduceEqDiff, Nat.reduceAdd, Nat.reduceLT, Nat.reduceLeDiff, Nat.reduceMul, Nat.reduceBEq, reduceIte]) ?_ rfl rfl
        simp -implicitDefEqProofs only [go_sem, Nat.reduceEqDiff, Nat.reduceAdd, Nat.reduceLT, Nat.reduceLeDiff, Nat.reduceMul, Nat.reduceBEq, reduceIte, he0, le0, qe0, pe0, hnt0t0_0, hnt0_0t0, wt0t0_0, c1, c2, c3, hv4, gi10, i10, cl12, cv12, ce12, hv13, gi20, i20, c26, c27, c28, c29, hv30]
        obtain ⟨v32, hz, h⟩ := bs h
        obtain ⟨R33, hR33⟩ : ∃ R : St → Prop, R = fun s => s.G = fillKey (fillKey (fillKey (fillKey (fillKey (fillKey (cut d G) e0 t0 [.box [arV ((v23 : List TGauss_row).map cTGauss_row) (e0, t0_0, 0) 4, .p (.bool v22)]]) e0 t0_0 (arO ((v23 : List TGauss_row).map cTGauss_row))) (d + 1) 6 [.box [.p (.int .i64 r6.1.f0), .p (.int .i64 r6.1.f1)]]) (d + 1) 8 [.box [.p (.sl (r11.1.f0.map cTRat)), .p (.int .i64 r11.1.f1.f0), .p (.int .i64 r11.1.f1.f1)]]) (d + 1) 10 [.box [.p (.sl (v30.f0.f0.map cTRat)), .p (.int .i64 v30.f0.f1.f0), .p (.int .i64 v30.f0.f1.f1), .p (.int .i64 v30.f1)]]) (d + 1) 11 [.box [.p (.int .i64 r31.f0), .p (.int .i64 r31.f1)]] ∧ s.F 0 = .bp (e0, t0, 0) 0 ∧ s.F 1 = .p (.int .i64 a1) ∧ s.F 2 = .p (.int .i64 a2) ∧ s.F 8 = .bp (d + 1, 8, 0) 0 ∧ s.F 9 = .p (.int .i64 v21) ∧ s.F 10 = .bp (d + 1, 10, 0) 0 ∧ s.F 11 = .bp (d + 1, 11, 0) 0 ∧ s.F 62 = arV ((v23 : List TGauss_row).map cTGauss_row) (e0, t0_0, 0) 4 ∧ s.F 63 = .p (.int .i64 (a0.f0.length : Int)) ∧ s.F 64 = .p (.int .i64 v21) ∧ s.F 86 = .p (.bool v32) ∧ True := ⟨_, rfl⟩
        refine cutR R33 ?_ ?_
        · replace h := hz
          rcases ib h with ⟨c34, h⟩ | ⟨c34, h⟩
          · cases h
            simp -implicitDefEqProofs only [go_sem, Nat.reduceEqDiff, Nat.reduceAdd, Nat.reduceLT, Nat.reduceLeDiff, Nat.reduceMul, Nat.reduceBEq, reduceIte, he0, le0, qe0, pe0, hnt0t0_0, hnt0_0t0, wt0t0_0, c1, c2, c3, hv4, gi10, i10, cl12, cv12, ce12, hv13, gi20, i20, c26, c27, c28, c29, hv30, c34]
            rw [hR33]
            simp -implicitDefEqProofs only [go_sem, Nat.reduceEqDiff, Nat.reduceAdd, Nat.reduceLT, Nat.reduceLeDiff, Nat.reduceMul, Nat.reduceBEq, reduceIte, he0, le0, qe0, pe0, hnt0t0_0, hnt0_0t0, wt0t0_0, c1, c2, c3, hv4, gi10, i10, cl12, cv12, ce12, hv13, gi20, i20, c26, c27, c28, c29, hv30, c34]
          · rcases ib h with ⟨c35, h⟩ | ⟨c35, h⟩
            · cases h
              simp -implicitDefEqProofs only [go_sem, Nat.reduceEqDiff, Nat.reduceAdd, Nat.reduceLT, Nat.reduceLeDiff, Nat.reduceMul, Nat.reduceBEq, reduceIte, he0, le0, qe0, pe0, hnt0t0_0, hnt0_0t0, wt0t0_0, c1, c2, c3, hv4, gi10, i10, cl12, cv12, ce12, hv13, gi20, i20, c26, c27, c28, c29, hv30, c34, c35]
              rw [hR33]
              simp -implicitDefEqProofs only [go_sem, Nat.reduceEqDiff, Nat.reduceAdd, Nat.reduceLT, Nat.reduceLeDiff, Nat.reduceMul, Nat.reduceBEq, reduceIte, he0, le0, qe0, pe0, hnt0t0_0, hnt0_0t0, wt0t0_0, c1, c2, c3, hv4, gi10, i10, cl12, cv12, ce12, hv13, gi20, i20, c26, c27, c28, c29, hv30, c34, c35]
            · cases h
              simp -implicitDefEqProofs only [go_sem, Nat.reduceEqDiff, Nat.reduceAdd, Nat.reduceLT, Nat.reduceLeDiff, Nat.reduceMul, Nat.reduceBEq, reduceIte, he0, le0, qe0, pe0, hnt0t0_0, hnt0_0t0, wt0t0_0, c1, c2, c3, hv4, gi10, i10, cl12, cv12, ce12, hv13, gi20, i20, c26, c27, c28, c29, hv30, c34, c35]
              rw [hR33]
              simp -implicitDefEqProofs only [go_sem, Nat.reduceEqDiff, Nat.reduceAdd, Nat.reduceLT, Nat.reduceLeDiff, Nat.reduceMul, Nat.reduceBEq, reduceIte, he0, le0, qe0, pe0, hnt0t0_0, hnt0_0t0, wt0t0_0, c1, c2, c3, hv4, gi10, i10, cl12, cv12, ce12, hv13, gi20, i20, c26, c27, c28, c29, hv30, c34, c35]
        · replace h := h; clear hz
          rintro s i
          rw [hR33] at i
          obtain ⟨gi36, i36⟩ := i
          clear hR33
          try dsimp only at h
          rcases ib h with ⟨c37, h⟩ | ⟨c37, h⟩
          · cases h
            simp -implicitDefEqProofs only [go_sem, Nat.reduceEqDiff, Nat.reduceAdd, Nat.reduceLT, Nat.reduceLeDiff, Nat.reduceMul, Nat.reduceBEq, reduceIte, he0, le0, qe0, pe0, hnt0t0_0, hnt0_0t0, wt0t0_0, c1, c2, c3, hv4, gi10, i10, cl12, cv12, ce12, hv13, gi20, i20, c26, c27, c28, c29, hv30, gi36, i36, c37]
            rw [hI20]
            simp -implicitDefEqProofs only [go_sem, Nat.reduceEqDiff, Nat.reduceAdd, Nat.reduceLT, Nat.reduceLeDiff, Nat.reduceMul, Nat.reduceBEq, reduceIte, he0, le0, qe0, pe0, hnt0t0_0, hnt0_0t0, wt0t0_0, c1, c2, c3, hv4, gi10, i10, cl12, cv12, ce12, hv13, gi20, i20, c26, c27, c28, c29, hv30, gi36, i36, c37]
          · obtain ⟨r38, hr38, h⟩ := bs h
            simp -implicitDefEqProofs only [go_sem, Nat.reduceEqDiff, Nat.reduceAdd, Nat.reduceLT, Nat.reduceLeDiff, Nat.reduceMul, Nat.reduceBEq, reduceIte, he0, le0, qe0, pe0, hnt0t0_0, hnt0_0t0, wt0t0_0, c1, c2, c3, hv4, gi10, i10, cl12, cv12, ce12, hv13, gi20, i20, c26, c27, c28, c29, hv30, gi36, i36, c37]
            refine call_open0 (t0 := 999) (r := .agg [.p (.sl (r38.1.f0.map cTRat)), .p (.int .i64 r38.1.f1.f0), .p (.int .i64 r38.1.f1.f1)]) (m_gauss_system_times_ev (⟨v23, v22⟩ : TGauss_system) r11.1 (⟨IntKind.wrap .i64 (0 - r31.f0), r31.f1⟩ : TRat) r38 hr38 (d + 1) _ e0 t0 t0_0 (Nat.le_succ_of_le he0) (by simp -implicitDefEqProofs only [go_sem, Nat.reduceEqDiff, Nat.reduceAdd, Nat.reduceLT, Nat.reduceLeDiff, Nat.reduceMul, Nat.reduceBEq, reduceIte, he0, le0, qe0, pe0, hnt0t0_0, hnt0_0t0, wt0t0_0, c1, c2, c3, hv4, gi10, i10, cl12, cv12, ce12, hv13, gi20, i20, c26, c27, c28, c29, hv30, gi36, i36, c37]) (by simp -implicitDefEqProofs only [go_sem, Nat.reduceEqDiff, Nat.reduceAdd, Nat.reduceLT, Nat.reduceLeDiff, Nat.reduceMul, Nat.reduceBEq, reduceIte, he0, le0, qe0, pe0, hnt0t0_0, hnt0_0t0, wt0t0_0, c1, c2, c3, hv4, gi10, i10, cl12, cv12, ce12, hv13, gi20, i20, c26, c27, c28, c29, hv30, gi36, i36, c37]) hnt0t0_0 hnt0_0t0) (by simp -implicitDefEqProofs only [go_sem, Nat.reduceEqDiff, Nat.reduceAdd, Nat.reduceLT, Nat.reduceLeDiff, Nat.reduceMul, Nat.reduceBEq, reduceIte, he0, le0, qe0, pe0, hnt0t0_0, hnt0_0t0, wt0t0_0, c1, c2, c3, hv4, gi10, i10, cl12, cv12, ce12, hv13, gi20, i20, c26, c27, c28, c29, hv30, gi36, i36, c37]) rfl (by simp -implicitDefEqProofs only [go_sem, Nat.reduceEqDiff, Nat.reduceAdd, Nat.reduceLT, Nat.reduceLeDiff, Nat.reduceMul, Nat.reduceBEq, reduceIte, he0, le0, qe0, pe0, hnt0t0_0, hnt0_0t0, wt0t0_0, c1, c2, c3, hv4, gi10, i10, cl12, cv12, ce12, hv13, gi20, i20, c26, c27, c28, c29, hv30, gi36, i36, c37]) (by simp -implicitDefEqProofs only [go_sem, Nat.reduceEqDiff, Nat.reduceAdd, Nat.reduceLT, Nat.reduceLeDiff, Nat.reduceMul, Nat.reduceBEq, reduceIte, he0, le0, qe0, pe0, hnt0t0_0, hnt0_0t0, wt0t0_0, c1, c2, c3, hv4, gi10, i10, cl12, cv12, ce12, hv13, gi20, i20, c26, c27, c28, c29, hv30, gi36, i36, c37]) (by simp -implicitDefEqProofs only [go_sem, Nat.reduceEqDiff, Nat.reduceAdd, Nat.reduceLT, Nat.reduceLeDiff, Nat.reduceMul, Nat.reduceBEq, reduceIte]) ?_
            have cl39 : (r38.2.f0).length = ((v23 : List TGauss_row)).length := by have := len_times hr38; (try simp only [List.length_set] at this); first | exact this | exact this.trans rfl
            have cv39 := arV_len (c := cTGauss_row) (κ := (e0, t0_0, 0)) (n := 4) cl39
            have ce39 := nil_len cl39
            simp -implicitDefEqProofs only [go_sem, Nat.reduceEqDiff, Nat.reduceAdd, Nat.reduceLT, Nat.reduceLeDiff, Nat.reduceMul, Nat.reduceBEq, reduceIte, he0, le0, qe0, pe0, hnt0t0_0, hnt0_0t0, wt0t0_0, c1, c2, c3, hv4, gi10, i10, cl12, cv12, ce12, hv13, gi20, i20, c26, c27, c28, c29, hv30, gi36, i36, c37, cl39, cv39, ce39]
            obtain ⟨⟨v40, v41⟩, hz, h⟩ := bs h
            obtain ⟨R42, hR42⟩ : ∃ R : St → Prop, R = fun s => s.G = fillKey (fillKey (fillKey (fillKey (fillKey (fillKey (fillKey (cut d G) e0 t0 [.box [arV ((v41 : List TGauss_row).map cTGauss_row) (e0, t0_0, 0) 4, .p (.bool v40)]]) e0 t0_0 (arO ((v41 : List TGauss_row).map cTGauss_row))) (d + 1) 6 [.box [.p (.int .i64 r6.1.f0), .p (.int .i64 r6.1.f1)]]) (d + 1) 8 [.box [.p (.sl (r11.1.f0.map cTRat)), .p (.int .i64 r11.1.f1.f0), .p (.int .i64 r11.1.f1.f1)]]) (d + 1) 10 [.box [.p (.sl (v30.f0.f0.map cTRat)), .p (.int .i64 v30.f0.f1.f0), .p (.int .i64 v30.f0.f1.f1), .p (.int .i64 v30.f1)]]) (d + 1) 11 [.box [.p (.int .i64 r31.f0), .p (.int .i64 r31.f1)]]) (d + 1) 12 [.box [.p (.sl (r38.1.f0.map cTRat)), .p (.int .i64 r38.1.f1.f0), .p (.int .i64 r38.1.f1.f1)]] ∧ s.F 0 = .bp (e0, t0, 0) 0 ∧ s.F 1 = .p (.int .i64 a1) ∧ s.F 2 = .p (.int .i64 a2) ∧ s.F 8 = .bp (d + 1, 8, 0) 0 ∧ s.F 62 = arV ((v41 : List TGauss_row).map cTGauss_row) (e0, t0_0, 0) 4 ∧ s.F 63 = .p (.int .i64 (a0.f0.length : Int)) ∧ s.F 64 = .p (.int .i64 v21) ∧ True := ⟨_, rfl⟩
            refine cutG R42 ?_ ?_
            · replace h := hz
              rcases ib h with ⟨c43, h⟩ | ⟨c43, h⟩
              · obtain ⟨r44, hr44, h⟩ := bs h
                simp -implicitDefEqProofs only [go_sem, Nat.reduceEqDiff, Nat.reduceAdd, Nat.reduceLT, Nat.reduceLeDiff, Nat.reduceMul, Nat.reduceBEq, reduceIte, he0, le0, qe0, pe0, hnt0t0_0, hnt0_0t0, wt0t0_0, c1, c2, c3, hv4, gi10, i10, cl12, cv12, ce12, hv13, gi20, i20, c26, c27, c28, c29, hv30, gi36, i36, c37, cl39, cv39, ce39, c43]
                refine call_frz (r' := .tup [.agg [.p (.sl (r44.1.f0.map cTRat)), .p (.int .i64 r44.1.f1.f0), .p (.int .i64 r44.1.f1.f1)], .p (.int .i64 r44.2)]) (m_term_Add_ev v30.f0 r38.1 r44 hr44 (d + 1) empty) (by simp -implicitDefEqProofs only [go_sem, Nat.reduceEqDiff, Nat.reduceAdd, Nat.reduceLT, Nat.reduceLeDiff, Nat.reduceMul, Nat.reduceBEq, reduceIte, he0, le0, qe0, pe0, hnt0t0_0, hnt0_0t0, wt0t0_0, c1, c2, c3, hv4, gi10, i10, cl12, cv12, ce12, hv13, gi20, i20, c26, c27, c28, c29, hv30, gi36, i36, c37, cl39, cv39, ce39, c43]) rfl (by simp -implicitDefEqProofs only [go_sem, Nat.reduceEqDiff, Nat.reduceAdd, Nat.reduceLT, Nat.reduceLeDiff, Nat.reduceMul, Nat.reduceBEq, reduceIte]) (by simp -implicitDefEqProofs only [go_sem, Nat.reduceEqDiff, Nat.reduceAdd, Nat.reduceLT, Nat.reduceLeDiff, Nat.reduceMul, Nat.reduceBEq, reduceIte]) ?_ rfl rfl
                obtain ⟨r45, hr45, h⟩ := bs h
                simp -implicitDefEqProofs only [go_sem, Nat.reduceEqDiff, Nat.reduceAdd, Nat.reduceLT, Nat.reduceLeDiff, Nat.reduceMul, Nat.reduceBEq, reduceIte, he0, le0, qe0, pe0, hnt0t0_0, hnt0_0t0, wt0t0_0, c1, c2, c3, hv4, gi10, i10, cl12, cv12, ce12, hv13, gi20, i20, c26, c27, c28, c29, hv30, gi36, i36, c37, cl39, cv39, ce39, c43]
                have cl46 : (r45.2.f0).length = ((v23 : List TGauss_row)).length := by have := len_keep hr45; (try simp only [List.length_set] at this); first | exact this | exact this.trans cl39
                have cv46 := arV_len (c := cTGauss_row) (κ := (e0, t0_0, 0)) (n := 4) cl46
                have ce46 := nil_len cl46
                refine call_drwL (t0 := 999) (r := .agg [.p (.sl (r45.1.f0.map cTRat)), .p (.int .i64 r45.1.f1.f0), .p (.int .i64 r45.1.f1.f1)]) [(e0, t0, [.box [arV ((r45.2.f0 : List TGauss_row).map cTGauss_row) (e0, t0_0, 0) 4, .p (.bool r45.2.f1)]]), (e0, t0_0, arO ((r45.2.f0 : List TGauss_row).map cTGauss_row))] (fun H => m_gauss_system_keep_ev r38.2 r44.1 r44.2 r45 hr45 (d + 1) _ e0 t0 t0_0 (Nat.le_succ_of_le he0) (by simp -implicitDefEqProofs only [go_sem, Nat.reduceEqDiff, Nat.reduceAdd, Nat.reduceLT, Nat.reduceLeDiff, Nat.reduceMul, Nat.reduceBEq, reduceIte, he0, le0, qe0, pe0, hnt0t0_0, hnt0_0t0, wt0t0_0, c1, c2, c3, hv4, gi10, i10, cl12, cv12, ce12, hv13, gi20, i20, c26, c27, c28, c29, hv30, gi36, i36, c37, cl39, cv39, ce39, c43]) (by simp -implicitDefEqProofs only [go_sem, Nat.reduceEqDiff, Nat.reduceAdd, Nat.reduceLT, Nat.reduceLeDiff, Nat.reduceMul, Nat.reduceBEq, reduceIte, he0, le0, qe0, pe0, hnt0t0_0, hnt0_0t0, wt0t0_0, c1, c2, c3, hv4, gi10, i10, cl12, cv12, ce12, hv13, gi20, i20, c26, c27, c28, c29, hv30, gi36, i36, c37, cl39, cv39, ce39, c43]) hnt0t0_0 hnt0_0t0) (by simp -implicitDefEqProofs only [go_sem, Nat.reduceEqDiff, Nat.reduceAdd, Nat.reduceLT, Nat.reduceLeDiff, Nat.reduceMul, Nat.reduceBEq, reduceIte, he0, le0, qe0, pe0, hnt0t0_0, hnt0_0t0, wt0t0_0, c1, c2, c3, hv4, gi10, i10, cl12, cv12, ce12, hv13, gi20, i20, c26, c27, c28, c29, hv30, gi36, i36, c37, cl39, cv39, ce39, c43, cl46, cv46, ce46]) rfl (by simp -implicitDefEqProofs only [go_sem, Nat.reduceEqDiff, Nat.reduceAdd, Nat.reduceLT, Nat.reduceLeDiff, Nat.reduceMul, Nat.reduceBEq, reduceIte, he0, le0, qe0, pe0, hnt0t0_0, hnt0_0t0, wt0t0_0, c1, c2, c3, hv4, gi10, i10, cl12, cv12, ce12, hv13, gi20, i20, c26, c27, c28, c29, hv30, gi36, i36, c37, cl39, cv39, ce39, c43, cl46, cv46, ce46]) (by simp -implicitDefEqProofs only [go_sem, Nat.reduceEqDiff, Nat.reduceAdd, Nat.reduceLT, Nat.reduceLeDiff, Nat.reduceMul, Nat.reduceBEq, reduceIte, he0, le0, qe0, pe0, hnt0t0_0, hnt0_0t0, wt0t0_0, c1, c2, c3, hv4, gi10, i10, cl12, cv12, ce12, hv13, gi20, i20, c26, c27, c28, c29, hv30, gi36, i36, c37, cl39, cv39, ce39, c43, cl46, cv46, ce46]) (by simp -implicitDefEqProofs only [go_sem, Nat.reduceEqDiff, Nat.reduceAdd, Nat.reduceLT, Nat.reduceLeDiff, Nat.reduceMul, Nat.reduceBEq, reduceIte]) (by simp -implicitDefEqProofs only [go_sem, Nat.reduceEqDiff, Nat.reduceAdd, Nat.reduceLT, Nat.reduceLeDiff, Nat.reduceMul, Nat.reduceBEq, reduceIte, he0, le0, qe0, pe0, hnt0t0_0, hnt0_0t0, wt0t0_0, c1, c2, c3, hv4, gi10, i10, cl12, cv12, ce12, hv13, gi20, i20, c26, c27, c28, c29, hv30, gi36, i36, c37, cl39, cv39, ce39, c43, cl46, cv46, ce46]) (by simp -implicitDefEqProofs only [go_sem, Nat.reduceEqDiff, Nat.reduceAdd, Nat.reduceLT, Nat.reduceLeDiff, Nat.reduceMul, Nat.reduceBEq, reduceIte, he0, le0, qe0, pe0, hnt0t0_0, hnt0_0t0, wt0t0_0, c1, c2, c3, hv4, gi10, i10, cl12, cv12, ce12, hv13, gi20, i20, c26, c27, c28, c29, hv30, gi36, i36, c37, cl39, cv39, ce39, c43, cl46, cv46, ce46]) (fun x hx => by simp only [go_sem, reduceIte, Nat.reduceEqDiff, List.mem_cons, List.not_mem_nil, or_false] at hx; rcases hx with rfl <;> first | exact ⟨(e0, t0, 0), 0, rfl, by simp -implicitDefEqProofs only [go_sem, Nat.reduceEqDiff, Nat.reduceAdd, Nat.reduceLT, Nat.reduceLeDiff, Nat.reduceMul, Nat.reduceBEq, reduceIte, he0, le0, qe0, pe0, hnt0t0_0, hnt0_0t0, wt0t0_0, c1, c2, c3, hv4, gi10, i10, cl12, cv12, ce12, hv13, gi20, i20, c26, c27, c28, c29, hv30, gi36, i36, c37, cl39, cv39, ce39, c43, cl46, cv46, ce46], [arV ((r38.2.f0 : List TGauss_row).map cTGauss_row) (e0, t0_0, 0) 4, .p (.bool r38.2.f1)], [arV ((r45.2.f0 : List TGauss_row).map cTGauss_row) (e0, t0_0, 0) 4, .p (.bool r45.2.f1)], by simp -implicitDefEqProofs only [go_sem, Nat.reduceEqDiff, Nat.reduceAdd, Nat.reduceLT, Nat.reduceLeDiff, Nat.reduceMul, Nat.reduceBEq, reduceIte, he0, le0, qe0, pe0, hnt0t0_0, hnt0_0t0, wt0t0_0, c1, c2, c3, hv4, gi10, i10, cl12, cv12, ce12, hv13, gi20, i20, c26, c27, c28, c29, hv30, gi36, i36, c37, cl39, cv39, ce39, c43, cl46, cv46, ce46], by simp -implicitDefEqProofs only [go_sem, Nat.reduceEqDiff, Nat.reduceAdd, Nat.reduceLT, Nat.reduceLeDiff, Nat.reduceMul, Nat.reduceBEq, reduceIte, he0, le0, qe0, pe0, hnt0t0_0, hnt0_0t0, wt0t0_0, c1, c2, c3, hv4, gi10, i10, cl12, cv12, ce12, hv13, gi20, i20, c26, c27, c28, c29, hv30, gi36, i36, c37, cl39, cv39, ce39, c43, cl46, cv46, ce46], by simp -implicitDefEqProofs only [go_sem, Nat.reduceEqDiff, Nat.reduceAdd, Nat.reduceLT, Nat.reduceLeDiff, Nat.reduceMul, Nat.reduceBEq, reduceIte, he0, le0, qe0, pe0, hnt0t0_0, hnt0_0t0, wt0t0_0, c1, c2, c3, hv4, gi10, i10, cl12, cv12, ce12, hv13, gi20, i20, c26, c27, c28, c29, hv30, gi36, i36, c37, cl39, cv39, ce39, c43, cl46, cv46, ce46]⟩) (by simp -implicitDefEqProofs only [go_sem, Nat.reduceEqDiff, Nat.reduceAdd, Nat.reduceLT, Nat.reduceLeDiff, Nat.reduceMul, Nat.reduceBEq, reduceIte]) ?_
                obtain ⟨v47, hv47, h⟩ := bs h
                replace hv47 := gis hv47
                cases h
                simp -implicitDefEqProofs only [go_sem, Nat.reduceEqDiff, Nat.reduceAdd, Nat.reduceLT, Nat.reduceLeDiff, Nat.reduceMul, Nat.reduceBEq, reduceIte, he0, le0, qe0, pe0, hnt0t0_0, hnt0_0t0, wt0t0_0, c1, c2, c3, hv4, gi10, i10, cl12, cv12, ce12, hv13, gi20, i20, c26, c27, c28, c29, hv30, gi36, i36, c37, cl39, cv39, ce39, c43, cl46, cv46, ce46, hv47]
                rw [hR42]
                simp -implicitDefEqProofs only [go_sem, Nat.reduceEqDiff, Nat.reduceAdd, Nat.reduceLT, Nat.reduceLeDiff, Nat.reduceMul, Nat.reduceBEq, reduceIte, he0, le0, qe0, pe0, hnt0t0_0, hnt0_0t0, wt0t0_0, c1, c2, c3, hv4, gi10, i10, cl12, cv12, ce12, hv13, gi20, i20, c26, c27, c28, c29, hv30, gi36, i36, c37, cl39, cv39, ce39, c43, cl46, cv46, ce46, hv47]
              · cases h
                simp -implicitDefEqProofs only [go_sem, Nat.reduceEqDiff, Nat.reduceAdd, Nat.reduceLT, Nat.reduceLeDiff, Nat.reduceMul, Nat.reduceBEq, reduceIte, he0, le0, qe0, pe0, hnt0t0_0, hnt0_0t0, wt0t0_0, c1, c2, c3, hv4, gi10, i10, cl12, cv12, ce12, hv13, gi20, i20, c26, c27, c28, c29, hv30, gi36, i36, c37, cl39, cv39, ce39, c43]
                rw [hR42]
                simp -implicitDefEqProofs only [go_sem, Nat.reduceEqDiff, Nat.reduceAdd, Nat.reduceLT, Nat.reduceLeDiff, Nat.reduceMul, Nat.reduceBEq, reduceIte, he0, le0, qe0, pe0, hnt0t0_0, hnt0_0t0, wt0t0_0, c1, c2, c3, hv4, gi10, i10, cl12, cv12, ce12, hv13, gi20, i20, c26, c27, c28, c29, hv30, gi36, i36, c37, cl39, cv39, ce39, c43]
            · replace h := h; clear hz
              rintro s i
              rw [hR42] at i
              obtain ⟨gi48, i48⟩ := i
              clear hR42
              try dsimp only at h
              cases h
              simp -implicitDefEqProofs only [go_sem, Nat.reduceEqDiff, Nat.reduceAdd, Nat.reduceLT, Nat.reduceLeDiff, Nat.reduceMul, Nat.reduceBEq, reduceIte, he0, le0, qe0, pe0, hnt0t0_0, hnt0_0t0, wt0t0_0, c1, c2, c3, hv4, gi10, i10, cl12, cv12, ce12, hv13, gi20, i20, c26, c27, c28, c29, hv30, gi36, i36, c37, cl39, cv39, ce39, gi48, i48]
              rw [hI20]
              simp -implicitDefEqProofs only [go_sem, Nat.reduceEqDiff, Nat.reduceAdd, Nat.reduceLT, Nat.reduceLeDiff, Nat.reduceMul, Nat.reduceBEq, reduceIte, he0, le0, qe0, pe0, hnt0t0_0, hnt0_0t0, wt0t0_0, c1, c2, c3, hv4, gi10, i10, cl12, cv12, ce12, hv13, gi20, i20, c26, c27, c28, c29, hv30, gi36, i36, c37, cl39, cv39, ce39, gi48, i48]
      · cases h
        simp -implicitDefEqProofs only [go_sem, Nat.reduceEqDiff, Nat.reduceAdd, Nat.reduceLT, Nat.reduceLeDiff, Nat.reduceMul, Nat.reduceBEq, reduceIte, he0, le0, qe0, pe0, hnt0t0_0, hnt0_0t0, wt0t0_0, c1, c2, c3, hv4, gi10, i10, cl12, cv12, ce12, hv13, gi20, i20, c26]
        rw [hR20]
        first | refine ⟨rfl, ?_⟩ | refine ⟨(), rfl, ?_⟩
        simp -implicitDefEqProofs only [go_sem, Nat.reduceEqDiff, Nat.reduceAdd, Nat.reduceLT, Nat.reduceLeDiff, Nat.reduceMul, Nat.reduceBEq, reduceIte, he0, le0, qe0, pe0, hnt0t0_0, hnt0_0t0, wt0t0_0, c1, c2, c3, hv4, gi10, i10, cl12, cv12, ce12, hv13, gi20, i20, c26]
    · clear hL20 hI20
      intro e s hr20
      rw [hR20] at hr20
      clear hR20
      rcases z20 with ⟨v24, v25⟩
      try dsimp only at h hr20
      obtain ⟨rfl, gi49, i49⟩ := hr20
      cases h
      subst hQ
      simp -implicitDefEqProofs only [go_sem, Nat.reduceEqDiff, Nat.reduceAdd, Nat.reduceLT, Nat.reduceLeDiff, Nat.reduceMul, Nat.reduceBEq, reduceIte, he0, le0, qe0, pe0, hnt0t0_0, hnt0_0t0, wt0t0_0, c1, c2, c3, hv4, gi10, i10, cl12, cv12, ce12, hv13, gi49, i49, Try.results96]
theorem m_slices_IndexFunc_gauss_row_ev (a0 : List TGauss_row) (a1 : (TGauss_row → Option Bool)) (n1 : FuncId) (q1 : List GV) (hc1 : closeds q1) (hf1 : ∀ x0 r, a1 x0 = some r → ∀ d, Tel Try.prog TB d n1 ([.agg ((cTGauss_row x0).map .p)] ++ q1) empty (.p (.bool r)) empty) (r0 : Int) (h : m_slices_IndexFunc_gauss_row a0 a1 = some r0) (d : Nat) (G : Heap) : Tel Try.prog TB d 94 [.p (.sl (a0.map cTGauss_row)), .fn n1 q1] G (.p (.int .i64 r0)) (G) := by
  unfold m_slices_IndexFunc_gauss_row at h
  refine Tel.intro mix Try.func94 rfl (Nat.le_of_ble_eq_true rfl) {frzAt := fun t => t == 16} (by kernel_rfl) (by kernel_rfl) ?_
  generalize hQ : callPost _ _ _ _ _ = Q
  simp -implicitDefEqProofs only [go_sem, Nat.reduceEqDiff, Nat.reduceAdd, Nat.reduceLT, Nat.reduceLeDiff, Nat.reduceMul, Nat.reduceBEq, reduceIte]
  obtain ⟨z3, hL3, h⟩ := bs h
  obtain ⟨I3, hI3⟩ : ∃ I : Int → St → Prop, I = fun v4 s => s.G = cut d G ∧ s.F 0 = .p (.sl (a0.map cTGauss_row)) ∧ s.F 1 = .fn n1 q1 ∧ s.F 7 = .p (.int .i64 (a0.length : Int)) ∧ s.F 8 = .p (.int .i64 v4) ∧ True := ⟨_, rfl⟩
  obtain ⟨R3, hR3⟩ : ∃ R : ((Unit) ⊕ (Int)) → GE → St → Prop, R = fun x e s => match x with | .inl _ => e = .exit 0 ∧ s.G = cut d G ∧ True | .inr r => e = .ret ∧ (r = r0 → Q .ret s) := ⟨_, rfl⟩
  refine lp (ts := []) rfl hL3 I3 R3 ?_ ?_ ?_
  · rw [hI3]
    simp -implicitDefEqProofs only [go_sem, Nat.reduceEqDiff, Nat.reduceAdd, Nat.reduceLT, Nat.reduceLeDiff, Nat.reduceMul, Nat.reduceBEq, reduceIte]
  · clear h hL3
    rintro v4 y s h i
    rw [hI3] at i
    obtain ⟨gi3, i3⟩ := i
    replace h : m_slices_IndexFunc_gauss_row_L0 a0 a1 (v4) = some y := h
    unfold m_slices_IndexFunc_gauss_row_L0 at h
    rcases ib h with ⟨c5, h⟩ | ⟨c5, h⟩
    · obtain ⟨v6, hv6, h⟩ := bs h
      replace hv6 := gis hv6
      obtain ⟨r7, hr7, h⟩ := bs h
      simp -implicitDefEqProofs only [go_sem, Nat.reduceEqDiff, Nat.reduceAdd, Nat.reduceLT, Nat.reduceLeDiff, Nat.reduceMul, Nat.reduceBEq, reduceIte, gi3, i3, c5, hv6]
      refine call_frz (r' := .p (.bool r7)) (hf1 v6 r7 hr7 (d + 1)) (by simp -implicitDefEqProofs only [go_sem, Nat.reduceEqDiff, Nat.reduceAdd, Nat.reduceLT, Nat.reduceLeDiff, Nat.reduceMul, Nat.reduceBEq, reduceIte, gi3, i3, c5, hv6]) rfl (by simp -implicitDefEqProofs only [go_sem, Nat.reduceEqDiff, Nat.reduceAdd, Nat.reduceLT, Nat.reduceLeDiff, Nat.reduceMul, Nat.reduceBEq, reduceIte, hc1]) (by simp -implicitDefEqProofs only [go_sem, Nat.reduceEqDiff, Nat.reduceAdd, Nat.reduceLT, Nat.reduceLeDiff, Nat.reduceMul, Nat.reduceBEq, reduceIte]) ?_ rfl rfl
      rcases ib h with ⟨c8, h⟩ | ⟨c8, h⟩
      · cases h
        simp -implicitDefEqProofs only [go_sem, Nat.reduceEqDiff, Nat.reduceAdd, Nat.reduceLT, Nat.reduceLeDiff, Nat.reduceMul, Nat.reduceBEq, reduceIte, gi3, i3, c5, hv6, c8]
        rw [hR3]
        refine ⟨rfl, ?_⟩
        intro hr
        subst hr
        subst hQ
        simp -implicitDefEqProofs only [go_sem, Nat.reduceEqDiff, Nat.reduceAdd, Nat.reduceLT, Nat.reduceLeDiff, Nat.reduceMul, Nat.reduceBEq, reduceIte, gi3, i3, c5, hv6, c8, Try.results94]
      · cases h
        simp -implicitDefEqProofs only [go_sem, Nat.reduceEqDiff, Nat.reduceAdd, Nat.reduceLT, Nat.reduceLeDiff, Nat.reduceMul, Nat.reduceBEq, reduceIte, gi3, i3, c5, hv6, c8]
        rw [hI3]
        simp -implicitDefEqProofs only [go_sem, Nat.reduceEqDiff, Nat.reduceAdd, Nat.reduceLT, Nat.reduceLeDiff, Nat.reduceMul, Nat.reduceBEq, reduceIte, gi3, i3, c5, hv6, c8]
    · cases h
      simp -implicitDefEqProofs only [go_sem, Nat.reduceEqDiff, Nat.reduceAdd, Nat.reduceLT, Nat.reduceLeDiff, Nat.reduceMul, Nat.reduceBEq, reduceIte, gi3, i3, c5]
      rw [hR3]
      first | refine ⟨rfl, ?_⟩ | refine ⟨(), rfl, ?_⟩
      simp -implicitDefEqProofs only [go_sem, Nat.reduceEqDiff, Nat.reduceAdd, Nat.reduceLT, Nat.reduceLeDiff, Nat.reduceMul, Nat.reduceBEq, reduceIte, gi3, i3, c5]
  · clear hL3 hI3
    intro e s hr3
    rw [hR3] at hr3
    clear hR3
    rcases z3 with _ | r
    · try dsimp only at h hr3
      obtain ⟨rfl, gi9, i9⟩ := hr3
      cases h
      subst hQ
      simp -implicitDefEqProofs only [go_sem, Nat.reduceEqDiff, Nat.reduceAdd, Nat.reduceLT, Nat.reduceLeDiff, Nat.reduceMul, Nat.reduceBEq, reduceIte, gi9, i9, Try.results94]
    · try dsimp only at h hr3
      obtain ⟨rfl, hr3⟩ := hr3
      cases h
      try simp -implicitDefEqProofs only [go_sem, Nat.reduceEqDiff, Nat.reduceAdd, Nat.reduceLT, Nat.reduceLeDiff, Nat.reduceMul, Nat.reduceBEq, reduceIte]
      exact hr3 rfl
theorem m_gauss_system_solve_1_ev (a0 : TGauss_row) (u0 : Int) (r0 : Bool) (h : m_gauss_system_solve_1 a0 u0 = some r0) (d : Nat) (G : Heap) : Tel Try.prog TB d 95 [.agg ((cTGauss_row a0).map .p), .ep (cii64 u0) 0] G (.p (.bool r0)) (G) := by
  unfold m_gauss_system_solve_1 at h
  refine Tel.intro mix Try.func95 rfl (Nat.le_of_ble_eq_true rfl) {frzAt := fun t => t == 2 || t == 11} (by kernel_rfl) (by kernel_rfl) ?_
  generalize hQ : callPost _ _ _ _ _ = Q
  rcases ib h with ⟨c1, h⟩ | ⟨c1, h⟩
  · obtain ⟨r2, hr2, h⟩ := bs h
    simp -implicitDefEqProofs only [go_sem, Nat.reduceEqDiff, Nat.reduceAdd, Nat.reduceLT, Nat.reduceLeDiff, Nat.reduceMul, Nat.reduceBEq, reduceIte, c1]
    refine call_frz (r' := .agg [.p (.int .i64 r2.f0), .p (.int .i64 r2.f1)]) (m_term_At_ev a0.f0 u0 r2 hr2 (d + 1) empty) (by simp -implicitDefEqProofs only [go_sem, Nat.reduceEqDiff, Nat.reduceAdd, Nat.reduceLT, Nat.reduceLeDiff, Nat.reduceMul, Nat.reduceBEq, reduceIte, c1]) rfl (by simp -implicitDefEqProofs only [go_sem, Nat.reduceEqDiff, Nat.reduceAdd, Nat.reduceLT, Nat.reduceLeDiff, Nat.reduceMul, Nat.reduceBEq, reduceIte]) (by simp -implicitDefEqProofs only [go_sem, Nat.reduceEqDiff, Nat.reduceAdd, Nat.reduceLT, Nat.reduceLeDiff, Nat.reduceMul, Nat.reduceBEq, reduceIte]) ?_ rfl rfl
    cases h
    subst hQ
    simp -implicitDefEqProofs only [go_sem, Nat.reduceEqDiff, Nat.reduceAdd, Nat.reduceLT, Nat.reduceLeDiff, Nat.reduceMul, Nat.reduceBEq, reduceIte, c1, Try.results95]
  · cases h
    subst hQ
    simp -implicitDefEqProofs only [go_sem, Nat.reduceEqDiff, Nat.reduceAdd, Nat.reduceLT, Nat.reduceLeDiff, Nat.reduceMul, Nat.reduceBEq, reduceIte, c1, Try.results95]
theorem m_gauss_system_solve_ev (a0 : TGauss_system) (r0 : TGauss_system) (h : m_gauss_system_solve a0 = some r0) (d : Nat) (G : Heap) (e0 t0 t0_0 : Nat) (he0 : e0 ≤ d) (hGt0 : G e0 t0 = [.box [arV ((a0.f0 : List TGauss_row).map cTGauss_row) (e0, t0_0, 0) 4, .p (.bool a0.f1)]]) (hGt0_0 : G e0 t0_0 = arO ((a0.f0 : List TGauss_row).map cTGauss_row)) (hnt0t0_0 : (t0 = t0_0) = False) (hnt0_0t0 : (t0_0 = t0) = False) : Tel Try.prog TB d 63 [.bp (e0, t0, 0) 0] G (.tup []) (fillKey (fillKey (G) e0 t0 ([.box [arV ((r0.f0 : List TGauss_row).map cTGauss_row) (e0, t0_0, 0) 4, .p (.bool r0.f1)]])) e0 t0_0 (arO ((r0.f0 : List TGauss_row).map cTGauss_row))) := by
  unfold m_gauss_system_solve at h
  refine Tel.intro mix Try.func63 rfl (Nat.le_of_ble_eq_true rfl) {openAt := fun t => t == 25, borAt := fun t => t == 12, clean := fun r => if r = 1 then [2] else []} (by kernel_rfl) (by kernel_rfl) ?_
  have le0 : (e0 ≤ d + 1) = True := by simp; omega
  have qe0 : (e0 = d + 1) = False := by simp; omega
  have pe0 : (d + 1 = e0) = False := by simp; omega
  have wt0t0_0 := fk_swap (a := e0) (b := t0_0) (a' := e0) (b' := t0) (fun x => by rw [← hnt0_0t0]; exact x.2)
  refine gwp_heap (H' := fillKey (fillKey (cut d G) e0 t0 [.box [arV ((a0.f0 : List TGauss_row).map cTGauss_row) (e0, t0_0, 0) 4, .p (.bool a0.f1)]]) e0 t0_0 (arO ((a0.f0 : List TGauss_row).map cTGauss_row))) ?_ ?_
  · rw [fill_self (B := cut d G) (a := e0) (b := t0) (by rw [cut_app, if_pos he0]; exact hGt0), fill_self (B := cut d G) (a := e0) (b := t0_0) (by rw [cut_app, if_pos he0]; exact hGt0_0)]
  generalize hQ : callPost _ _ _ _ _ = Q
  simp -implicitDefEqProofs only [go_sem, Nat.reduceEqDiff, Nat.reduceAdd, Nat.reduceLT, Nat.reduceLeDiff, Nat.reduceMul, Nat.reduceBEq, reduceIte, he0, le0, qe0, pe0, hnt0t0_0, hnt0_0t0, wt0t0_0]
  obtain ⟨z7, hL7, h⟩ := bs h
  obtain ⟨I7, hI7⟩ : ∃ I : (Int × Bool × (List TGauss_row)) → St → Prop, I = fun a s => match a with | (v8, v9, v10) => s.G = fillKey (fillKey (cut d G) e0 t0 [.box [arV ((v10 : List TGauss_row).map cTGauss_row) (e0, t0_0, 0) 4, .p (.bool v9)]]) e0 t0_0 (arO ((v10 : List TGauss_row).map cTGauss_row)) ∧ s.F 0 = .bp (e0, t0, 0) 0 ∧ s.F 4 = .p (.int .i64 v8) ∧ True := ⟨_, rfl⟩
  obtain ⟨R7, hR7⟩ : ∃ R : (Bool × (List TGauss_row)) → GE → St → Prop, R = fun x e s => match x with | (v11, v12) => e = .exit 0 ∧ s.G = fillKey (fillKey (cut d G) e0 t0 [.box [arV ((v12 : List TGauss_row).map cTGauss_row) (e0, t0_0, 0) 4, .p (.bool v11)]]) e0 t0_0 (arO ((v12 : List TGauss_row).map cTGauss_row)) ∧ True := ⟨_, rfl⟩
  refine lp (ts := [2]) rfl hL7 I7 R7 ?_ ?_ ?_
  · rw [hI7]
    simp -implicitDefEqProofs only [go_sem, Nat.reduceEqDiff, Nat.reduceAdd, Nat.reduceLT, Nat.reduceLeDiff, Nat.reduceMul, Nat.reduceBEq, reduceIte, he0, le0, qe0, pe0, hnt0t0_0, hnt0_0t0, wt0t0_0]
  · clear h hL7
    rintro ⟨v8, v9, v10⟩ y s h i
    rw [hI7] at i
    obtain ⟨gi7, i7⟩ := i
    replace h : m_gauss_system_solve_L0 (v8, v9, v10) = some y := h
    unfold m_gauss_system_solve_L0 at h
    rcases ib h with ⟨c13, h⟩ | ⟨c13, h⟩
    · obtain ⟨r14, hr14, h⟩ := bs h
      simp -implicitDefEqProofs only [go_sem, Nat.reduceEqDiff, Nat.reduceAdd, Nat.reduceLT, Nat.reduceLeDiff, Nat.reduceMul, Nat.reduceBEq, reduceIte, he0, le0, qe0, pe0, hnt0t0_0, hnt0_0t0, wt0t0_0, gi7, i7, c13]
      refine call_look (m_slices_IndexFunc_gauss_row_ev v10 (fun x0 => m_gauss_system_solve_1 x0 v8) 95 [.ep (cii64 v8) 0] (by simp -implicitDefEqProofs only [go_sem, Nat.reduceEqDiff, Nat.reduceAdd, Nat.reduceLT, Nat.reduceLeDiff, Nat.reduceMul, Nat.reduceBEq, reduceIte]) (fun x0 r h d => m_gauss_system_solve_1_ev x0 v8 r h d empty) r14 hr14 (d + 1) empty) (by simp -implicitDefEqProofs only [go_sem, Nat.reduceEqDiff, Nat.reduceAdd, Nat.reduceLT, Nat.reduceLeDiff, Nat.reduceMul, Nat.reduceBEq, reduceIte, he0, le0, qe0, pe0, hnt0t0_0, hnt0_0t0, wt0t0_0, gi7, i7, c13]) (by simp -implicitDefEqProofs only [go_sem, Nat.reduceEqDiff, Nat.reduceAdd, Nat.reduceLT, Nat.reduceLeDiff, Nat.reduceMul, Nat.reduceBEq, reduceIte]) (by simp -implicitDefEqProofs only [go_sem, Nat.reduceEqDiff, Nat.reduceAdd, Nat.reduceLT, Nat.reduceLeDiff, Nat.reduceMul, Nat.reduceBEq, reduceIte]) ?_ rfl
      simp -implicitDefEqProofs only [go_sem, Nat.reduceEqDiff, Nat.reduceAdd, Nat.reduceLT, Nat.reduceLeDiff, Nat.reduceMul, Nat.reduceBEq, reduceIte, he0, le0, qe0, pe0, hnt0t0_0, hnt0_0t0, wt0t0_0, gi7, i7, c13]
      obtain ⟨v15, hz, h⟩ := bs h
      obtain ⟨R16, hR16⟩ : ∃ R : St → Prop, R = fun s => s.G = fillKey (fillKey (fillKey (cut d G) e0 t0 [.box [arV ((v10 : List TGauss_row).map cTGauss_row) (e0, t0_0, 0) 4, .p (.bool v9)]]) e0 t0_0 (arO ((v10 : List TGauss_row).map cTGauss_row))) (d + 1) 2 [.box [.p (.int .i64 v8)]] ∧ s.F 0 = .bp (e0, t0, 0) 0 ∧ s.F 2 = .bp (d + 1, 2, 0) 0 ∧ s.F 3 = .p (.int .i64 r14) ∧ s.F 4 = .p (.int .i64 v8) ∧ s.F 21 = .p (.bool v15) ∧ True := ⟨_, rfl⟩
      refine cutR R16 ?_ ?_
      · replace h := hz
        rcases ib h with ⟨c17, h⟩ | ⟨c17, h⟩
        · cases h
          simp -implicitDefEqProofs only [go_sem, Nat.reduceEqDiff, Nat.reduceAdd, Nat.reduceLT, Nat.reduceLeDiff, Nat.reduceMul, Nat.reduceBEq, reduceIte, he0, le0, qe0, pe0, hnt0t0_0, hnt0_0t0, wt0t0_0, gi7, i7, c13, c17]
          rw [hR16]
          simp -implicitDefEqProofs only [go_sem, Nat.reduceEqDiff, Nat.reduceAdd, Nat.reduceLT, Nat.reduceLeDiff, Nat.reduceMul, Nat.reduceBEq, reduceIte, he0, le0, qe0, pe0, hnt0t0_0, hnt0_0t0, wt0t0_0, gi7, i7, c13, c17]
        · cases h
          simp -implicitDefEqProofs only [go_sem, Nat.reduceEqDiff, Nat.reduceAdd, Nat.reduceLT, Nat.reduceLeDiff, Nat.reduceMul, Nat.reduceBEq, reduceIte, he0, le0, qe0, pe0, hnt0t0_0, hnt0_0t0, wt0t0_0, gi7, i7, c13, c17]
          rw [hR16]
          simp -implicitDefEqProofs only [go_sem, Nat.reduceEqDiff, Nat.reduceAdd, Nat.reduceLT, Nat.reduceLeDiff, Nat.reduceMul, Nat.reduceBEq, reduceIte, he0, le0, qe0, pe0, hnt0t0_0, hnt0_0t0, wt0t0_0, gi7, i7, c13, c17]
      · replace h := h; clear hz
        rintro s i
        rw [hR16] at i
        obtain ⟨gi18, i18⟩ := i
        clear hR16
        try dsimp only at h
        simp -implicitDefEqProofs only [go_sem, Nat.reduceEqDiff, Nat.reduceAdd, Nat.reduceLT, Nat.reduceLeDiff, Nat.reduceMul, Nat.reduceBEq, reduceIte, he0, le0, qe0, pe0, hnt0t0_0, hnt0_0t0, wt0t0_0, gi7, i7, c13, gi18, i18]
        obtain ⟨⟨v19, v20⟩, hz, h⟩ := bs h
        obtain ⟨R21, hR21⟩ : ∃ R : St → Prop, R = fun s => s.G = fillKey (fillKey (fillKey (cut d G) e0 t0 [.box [arV ((v20 : List TGauss_row).map cTGauss_row) (e0, t0_0, 0) 4, .p (.bool v19)]]) e0 t0_0 (arO ((v20 : List TGauss_row).map cTGauss_row))) (d + 1) 2 [.box [.p (.int .i64 v8)]] ∧ s.F 0 = .bp (e0, t0, 0) 0 ∧ s.F 4 = .p (.int .i64 v8) ∧ True := ⟨_, rfl⟩
        refine cutG R21 ?_ ?_
        · replace h := hz
          rcases ib h with ⟨c22, h⟩ | ⟨c22, h⟩
          · obtain ⟨r23, hr23, h⟩ := bs h
            simp -implicitDefEqProofs only [go_sem, Nat.reduceEqDiff, Nat.reduceAdd, Nat.reduceLT, Nat.reduceLeDiff, Nat.reduceMul, Nat.reduceBEq, reduceIte, he0, le0, qe0, pe0, hnt0t0_0, hnt0_0t0, wt0t0_0, gi7, i7, c13, gi18, i18, c22]
            refine call_open0 (t0 := 999) (r := .tup []) (m_gauss_system_take_ev (⟨v10, v9⟩ : TGauss_system) r14 v8 r23 hr23 (d + 1) _ e0 t0 t0_0 (Nat.le_succ_of_le he0) (by simp -implicitDefEqProofs only [go_sem, Nat.reduceEqDiff, Nat.reduceAdd, Nat.reduceLT, Nat.reduceLeDiff, Nat.reduceMul, Nat.reduceBEq, reduceIte, he0, le0, qe0, pe0, hnt0t0_0, hnt0_0t0, wt0t0_0, gi7, i7, c13, gi18, i18, c22]) (by simp -implicitDefEqProofs only [go_sem, Nat.reduceEqDiff, Nat.reduceAdd, Nat.reduceLT, Nat.reduceLeDiff, Nat.reduceMul, Nat.reduceBEq, reduceIte, he0, le0, qe0, pe0, hnt0t0_0, hnt0_0t0, wt0t0_0, gi7, i7, c13, gi18, i18, c22]) hnt0t0_0 hnt0_0t0) (by simp -implicitDefEqProofs only [go_sem, Nat.reduceEqDiff, Nat.reduceAdd, Nat.reduceLT, Nat.reduceLeDiff, Nat.reduceMul, Nat.reduceBEq, reduceIte, he0, le0, qe0, pe0, hnt0t0_0, hnt0_0t0, wt0t0_0, gi7, i7, c13, gi18, i18, c22]) rfl (by simp -implicitDefEqProofs only [go_sem, Nat.reduceEqDiff, Nat.reduceAdd, Nat.reduceLT, Nat.reduceLeDiff, Nat.reduceMul, Nat.reduceBEq, reduceIte, he0, le0, qe0, pe0, hnt0t0_0, hnt0_0t0, wt0t0_0, gi7, i7, c13, gi18, i18, c22]) (by simp -implicitDefEqProofs only [go_sem, Nat.reduceEqDiff, Nat.reduceAdd, Nat.reduceLT, Nat.reduceLeDiff, Nat.reduceMul, Nat.reduceBEq, reduceIte, he0, le0, qe0, pe0, hnt0t0_0, hnt0_0t0, wt0t0_0, gi7, i7, c13, gi18, i18, c22]) (by simp -implicitDefEqProofs only [go_sem, Nat.reduceEqDiff, Nat.reduceAdd, Nat.reduceLT, Nat.reduceLeDiff, Nat.reduceMul, Nat.reduceBEq, reduceIte]) ?_
            have cl24 : (r23.f0).length = ((v10 : List TGauss_row)).length := by have := len_take hr23; (try simp only [List.length_set] at this); first | exact this | exact this.trans rfl
            have cv24 := arV_len (c := cTGauss_row) (κ := (e0, t0_0, 0)) (n := 4) cl24
            have ce24 := nil_len cl24
            cases h
            simp -implicitDefEqProofs only [go_sem, Nat.reduceEqDiff, Nat.reduceAdd, Nat.reduceLT, Nat.reduceLeDiff, Nat.reduceMul, Nat.reduceBEq, reduceIte, he0, le0, qe0, pe0, hnt0t0_0, hnt0_0t0, wt0t0_0, gi7, i7, c13, gi18, i18, c22, cl24, cv24, ce24]
            rw [hR21]
            simp -implicitDefEqProofs only [go_sem, Nat.reduceEqDiff, Nat.reduceAdd, Nat.reduceLT, Nat.reduceLeDiff, Nat.reduceMul, Nat.reduceBEq, reduceIte, he0, le0, qe0, pe0, hnt0t0_0, hnt0_0t0, wt0t0_0, gi7, i7, c13, gi18, i18, c22, cl24, cv24, ce24]
          · cases h
            simp -implicitDefEqProofs only [go_sem, Nat.reduceEqDiff, Nat.reduceAdd, Nat.reduceLT, Nat.reduceLeDiff, Nat.reduceMul, Nat.reduceBEq, reduceIte, he0, le0, qe0, pe0, hnt0t0_0, hnt0_0t0, wt0t0_0, gi7, i7, c13, gi18, i18, c22]
            rw [hR21]
            simp -implicitDefEqProofs only [go_sem, Nat.reduceEqDiff, Nat.reduceAdd, Nat.reduceLT, Nat.reduceLeDiff, Nat.reduceMul, Nat.reduceBEq, reduceIte, he0, le0, qe0, pe0, hnt0t0_0, hnt0_0t0, wt0t0_0, gi7, i7, c13, gi18, i18, c22]
        · replace h := h; clear hz
          rintro s i
          rw [hR21] at i
          obtain ⟨gi25, i25⟩ := i
          clear hR21
          try dsimp only at h
          cases h
          simp -implicitDefEqProofs only [go_sem, Nat.reduceEqDiff, Nat.reduceAdd, Nat.reduceLT, Nat.reduceLeDiff, Nat.reduceMul, Nat.reduceBEq, reduceIte, he0, le0, qe0, pe0, hnt0t0_0, hnt0_0t0, wt0t0_0, gi7, i7, c13, gi18, i18, gi25, i25]
          rw [hI7]
          simp -implicitDefEqProofs only [go_sem, Nat.reduceEqDiff, Nat.reduceAdd, Nat.reduceLT, Nat.reduceLeDiff, Nat.reduceMul, Nat.reduceBEq, reduceIte, he0, le0, qe0, pe0, hnt0t0_0, hnt0_0t0, wt0t0_0, gi7, i7, c13, gi18, i18, gi25, i25]
    · cases h
      simp -implicitDefEqProofs only [go_sem, Nat.reduceEqDiff, Nat.reduceAdd, Nat.reduceLT, Nat.reduceLeDiff, Nat.reduceMul, Nat.reduceBEq, reduceIte, he0, le0, qe0, pe0, hnt0t0_0, hnt0_0t0, wt0t0_0, gi7, i7, c13]
      rw [hR7]
      first | refine ⟨rfl, ?_⟩ | refine ⟨(), rfl, ?_⟩
      simp -implicitDefEqProofs only [go_sem, Nat.reduceEqDiff, Nat.reduceAdd, Nat.reduceLT, Nat.reduceLeDiff, Nat.reduceMul, Nat.reduceBEq, reduceIte, he0, le0, qe0, pe0, hnt0t0_0, hnt0_0t0, wt0t0_0, gi7, i7, c13]
  · clear hL7 hI7
    intro e s hr7
    rw [hR7] at hr7
    clear hR7
    rcases z7 with ⟨v11, v12⟩
    try dsimp only at h hr7
    obtain ⟨rfl, gi26, i26⟩ := hr7
    cases h
    subst hQ
    simp -implicitDefEqProofs only [go_sem, Nat.reduceEqDiff, Nat.reduceAdd, Nat.reduceLT, Nat.reduceLeDiff, Nat.reduceMul, Nat.reduceBEq, reduceIte, he0, le0, qe0, pe0, hnt0t0_0, hnt0_0t0, wt0t0_0, gi26, i26, Try.results63]
theorem m_slices_insertionSortCmpFunc__gauss_row_ev (a0 : List TGauss_row) (a1 : Int) (a2 : Int) (a3 : (TGauss_row → TGauss_row → Option Int)) (n3 : FuncId) (q3 : List GV) (hc3 : closeds q3) (hf3 : ∀ x0 x1 r, a3 x0 x1 = some r → ∀ d, Tel Try.prog TB d n3 ([.agg ((cTGauss_row x0).map .p), .agg ((cTGauss_row x1).map .p)] ++ q3) empty (.p (.int .i64 r)) empty) (r0 : (List TGauss_row)) (h : m_slices_insertionSortCmpFunc__gauss_row a0 a1 a2 a3 = some r0) (d : Nat) (G : Heap) (e0 t0 : Nat) (he0 : e0 ≤ d) (hGt0 : G e0 t0 = arO ((a0 : List TGauss_row).map cTGauss_row)) : Tel Try.prog TB d 114 [arV ((a0 : List TGauss_row).map cTGauss_row) (e0, t0, 0) 4, .p (.int .i64 a1), .p (.int .i64 a2), .fn n3 q3] G (.tup []) (fillKey (G) e0 t0 (arO ((r0 : List TGauss_row).map cTGauss_row))) := by
  unfold m_slices_insertionSortCmpFunc__gauss_row at h
  refine Tel.intro mix Try.func114 rfl (Nat.le_of_ble_eq_true rfl) {frzAt := fun t => t == 32} (by kernel_rfl) (by kernel_rfl) ?_
  have le0 : (e0 ≤ d + 1) = True := by simp; omega
  have qe0 : (e0 = d + 1) = False := by simp; omega
  have pe0 : (d + 1 = e0) = False := by simp; omega
  refine gwp_heap (H' := fillKey (cut d G) e0 t0 (arO ((a0 : List TGauss_row).map cTGauss_row))) ?_ ?_
  · rw [fill_self (B := cut d G) (a := e0) (b := t0) (by rw [cut_app, if_pos he0]; exact hGt0)]
  generalize hQ : callPost _ _ _ _ _ = Q
  simp -implicitDefEqProofs only [go_sem, Nat.reduceEqDiff, Nat.reduceAdd, Nat.reduceLT, Nat.reduceLeDiff, Nat.reduceMul, Nat.reduceBEq, reduceIte, he0, le0, qe0, pe0]
  obtain ⟨z5, hL5, h⟩ := bs h
  obtain ⟨I5, hI5⟩ : ∃ I : (Int × (List TGauss_row)) → St → Prop, I = fun a s => match a with | (v6, v7) => s.G = fillKey (cut d G) e0 t0 (arO ((v7 : List TGauss_row).map cTGauss_row)) ∧ s.F 0 = arV ((v7 : List TGauss_row).map cTGauss_row) (e0, t0, 0) 4 ∧ s.F 1 = .p (.int .i64 a1) ∧ s.F 2 = .p (.int .i64 a2) ∧ s.F 3 = .fn n3 q3 ∧ s.F 8 = .p (.int .i64 v6) ∧ True := ⟨_, rfl⟩
  obtain ⟨R5, hR5⟩ : ∃ R : ((List TGauss_row)) → GE → St → Prop, R = fun v8 e s => e = .exit 0 ∧ s.G = fillKey (cut d G) e0 t0 (arO ((v8 : List TGauss_row).map cTGauss_row)) ∧ True := ⟨_, rfl⟩
  refine lp (ts := []) rfl hL5 I5 R5 ?_ ?_ ?_
  · rw [hI5]
    simp -implicitDefEqProofs only [go_sem, Nat.reduceEqDiff, Nat.reduceAdd, Nat.reduceLT, Nat.reduceLeDiff, Nat.reduceMul, Nat.reduceBEq, reduceIte, he0, le0, qe0, pe0]
  · clear h hL5
    rintro ⟨v6, v7⟩ y s h i
    rw [hI5] at i
    obtain ⟨gi5, i5⟩ := i
    replace h : m_slices_insertionSortCmpFunc__gauss_row_L0 a2 a1 a3 (v6, v7) = some y := h
    unfold m_slices_insertionSortCmpFunc__gauss_row_L0 at h
    rcases ib h with ⟨c9, h⟩ | ⟨c9, h⟩
    · simp -implicitDefEqProofs only [go_sem, Nat.reduceEqDiff, Nat.reduceAdd, Nat.reduceLT, Nat.reduceLeDiff, Nat.reduceMul, Nat.reduceBEq, reduceIte, he0, le0, qe0, pe0, gi5, i5, c9]
      obtain ⟨z14, hL14, h⟩ := bs h
      obtain ⟨I14, hI14⟩ : ∃ I : (Int × (List TGauss_row)) → St → Prop, I = fun a s => match a with | (v15, v16) => s.G = fillKey (cut d G) e0 t0 (arO ((v16 : List TGauss_row).map cTGauss_row)) ∧ s.F 0 = arV ((v16 : List TGauss_row).map cTGauss_row) (e0, t0, 0) 4 ∧ s.F 1 = .p (.int .i64 a1) ∧ s.F 2 = .p (.int .i64 a2) ∧ s.F 3 = .fn n3 q3 ∧ s.F 8 = .p (.int .i64 v6) ∧ s.F 9 = .p (.int .i64 v15) ∧ True := ⟨_, rfl⟩
      obtain ⟨R14, hR14⟩ : ∃ R : ((List TGauss_row)) → GE → St → Prop, R = fun v17 e s => e = .exit 2 ∧ s.G = fillKey (cut d G) e0 t0 (arO ((v17 : List TGauss_row).map cTGauss_row)) ∧ s.F 0 = arV ((v17 : List TGauss_row).map cTGauss_row) (e0, t0, 0) 4 ∧ s.F 1 = .p (.int .i64 a1) ∧ s.F 2 = .p (.int .i64 a2) ∧ s.F 3 = .fn n3 q3 ∧ s.F 8 = .p (.int .i64 v6) ∧ True := ⟨_, rfl⟩
      refine lp (ts := []) rfl hL14 I14 R14 ?_ ?_ ?_
      · rw [hI14]
        simp -implicitDefEqProofs only [go_sem, Nat.reduceEqDiff, Nat.reduceAdd, Nat.reduceLT, Nat.reduceLeDiff, Nat.reduceMul, Nat.reduceBEq, reduceIte, he0, le0, qe0, pe0, gi5, i5, c9]
      · clear h hL14
        rintro ⟨v15, v16⟩ y s h i
        rw [hI14] at i
        obtain ⟨gi14, i14⟩ := i
        replace h : m_slices_insertionSortCmpFunc__gauss_row_L1 a1 a3 (v15, v16) = some y := h
        unfold m_slices_insertionSortCmpFunc__gauss_row_L1 at h
        simp -implicitDefEqProofs only [go_sem, Nat.reduceEqDiff, Nat.reduceAdd, Nat.reduceLT, Nat.reduceLeDiff, Nat.reduceMul, Nat.reduceBEq, reduceIte, he0, le0, qe0, pe0, gi5, i5, c9, gi14, i14]
        obtain ⟨v18, hz, h⟩ := bs h
        obtain ⟨R19, hR19⟩ : ∃ R : St → Prop, R = fun s => s.G = fillKey (cut d G) e0 t0 (arO ((v16 : List TGauss_row).map cTGauss_row)) ∧ s.F 0 = arV ((v16 : List TGauss_row).map cTGauss_row) (e0, t0, 0) 4 ∧ s.F 1 = .p (.int .i64 a1) ∧ s.F 2 = .p (.int .i64 a2) ∧ s.F 3 = .fn n3 q3 ∧ s.F 8 = .p (.int .i64 v6) ∧ s.F 9 = .p (.int .i64 v15) ∧ s.F 34 = .p (.bool v18) ∧ True := ⟨_, rfl⟩
        refine cutR R19 ?_ ?_
        · replace h := hz
          rcases ib h with ⟨c20, h⟩ | ⟨c20, h⟩
          · obtain ⟨_, c21, h⟩ := bs h
            replace c21 := rqs c21
            obtain ⟨_, c22, h⟩ := bs h
            replace c22 := rqs c22
            have c23 := ne_of_idx c21 c22
            obtain ⟨v24, hv24, h⟩ := bs h
            replace hv24 := gis hv24
            obtain ⟨_, c25, h⟩ := bs h
            replace c25 := rqs c25
            obtain ⟨_, c26, h⟩ := bs h
            replace c26 := rqs c26
            obtain ⟨v27, hv27, h⟩ := bs h
            replace hv27 := gis hv27
            obtain ⟨r28, hr28, h⟩ := bs h
            simp -implicitDefEqProofs only [go_sem, Nat.reduceEqDiff, Nat.reduceAdd, Nat.reduceLT, Nat.reduceLeDiff, Nat.reduceMul, Nat.reduceBEq, reduceIte, he0, le0, qe0, pe0, gi5, i5, c9, gi14, i14, c20, c21, c22, c23, hv24, c25, c26, hv27]
            refine call_frz (r' := .p (.int .i64 r28)) (hf3 v24 v27 r28 hr28 (d + 1)) (by simp -implicitDefEqProofs only [go_sem, Nat.reduceEqDiff, Nat.reduceAdd, Nat.reduceLT, Nat.reduceLeDiff, Nat.reduceMul, Nat.reduceBEq, reduceIte, he0, le0, qe0, pe0, gi5, i5, c9, gi14, i14, c20, c21, c22, c23, hv24, c25, c26, hv27]) rfl (by simp -implicitDefEqProofs only [go_sem, Nat.reduceEqDiff, Nat.reduceAdd, Nat.reduceLT, Nat.reduceLeDiff, Nat.reduceMul, Nat.reduceBEq, reduceIte, hc3]) (by simp -implicitDefEqProofs only [go_sem, Nat.reduceEqDiff, Nat.reduceAdd, Nat.reduceLT, Nat.reduceLeDiff, Nat.reduceMul, Nat.reduceBEq, reduceIte]) ?_ rfl rfl
            cases h
            simp -implicitDefEqProofs only [go_sem, Nat.reduceEqDiff, Nat.reduceAdd, Nat.reduceLT, Nat.reduceLeDiff, Nat.reduceMul, Nat.reduceBEq, reduceIte, he0, le0, qe0, pe0, gi5, i5, c9, gi14, i14, c20, c21, c22, c23, hv24, c25, c26, hv27]
            rw [hR19]
            simp -implicitDefEqProofs only [go_sem, Nat.reduceEqDiff, Nat.reduceAdd, Nat.reduceLT, Nat.reduceLeDiff, Nat.reduceMul, Nat.reduceBEq, reduceIte, he0, le0, qe0, pe0, gi5, i5, c9, gi14, i14, c20, c21, c22, c23, hv24, c25, c26, hv27]
          · cases h
            simp -implicitDefEqProofs only [go_sem, Nat.reduceEqDiff, Nat.reduceAdd, Nat.reduceLT, Nat.reduceLeDiff, Nat.reduceMul, Nat.reduceBEq, reduceIte, he0, le0, qe0, pe0, gi5, i5, c9, gi14, i14, c20]
            rw [hR19]
            simp -implicitDefEqProofs only [go_sem, Nat.reduceEqDiff, Nat.reduceAdd, Nat.reduceLT, Nat.reduceLeDiff, Nat.reduceMul, Nat.reduceBEq, reduceIte, he0, le0, qe0, pe0, gi5, i5, c9, gi14, i14, c20]
        · replace h := h; clear hz
          rintro s i
          rw [hR19] at i
          obtain ⟨gi29, i29⟩ := i
          clear hR19
          try dsimp only at h
          rcases ib h with ⟨c30, h⟩ | ⟨c30, h⟩
          · obtain ⟨_, c31, h⟩ := bs h
            replace c31 := rqs c31
            obtain ⟨_, c32, h⟩ := bs h
            replace c32 := rqs c32
            have c33 := ne_of_idx c31 c32
            obtain ⟨v34, hv34, h⟩ := bs h
            replace hv34 := gis hv34
            obtain ⟨_, c35, h⟩ := bs h
            replace c35 := rqs c35
            obtain ⟨_, c36, h⟩ := bs h
            replace c36 := rqs c36
            obtain ⟨v37, hv37, h⟩ := bs h
            replace hv37 := gis hv37
            obtain ⟨v38, hv38, h⟩ := bs h
            replace hv38 := gis hv38
            have hv38m := get_map (c := cTGauss_row) hv38.2
            simp only [go_sem] at hv38m
            cases h
            simp -implicitDefEqProofs only [go_sem, Nat.reduceEqDiff, Nat.reduceAdd, Nat.reduceLT, Nat.reduceLeDiff, Nat.reduceMul, Nat.reduceBEq, reduceIte, he0, le0, qe0, pe0, gi5, i5, c9, gi14, i14, gi29, i29, c30, c31, c32, c33, hv34, c35, c36, hv37, hv38, hv38m]
            rw [hI14]
            simp -implicitDefEqProofs only [go_sem, Nat.reduceEqDiff, Nat.reduceAdd, Nat.reduceLT, Nat.reduceLeDiff, Nat.reduceMul, Nat.reduceBEq, reduceIte, he0, le0, qe0, pe0, gi5, i5, c9, gi14, i14, gi29, i29, c30, c31, c32, c33, hv34, c35, c36, hv37, hv38, hv38m]
          · cases h
            simp -implicitDefEqProofs only [go_sem, Nat.reduceEqDiff, Nat.reduceAdd, Nat.reduceLT, Nat.reduceLeDiff, Nat.reduceMul, Nat.reduceBEq, reduceIte, he0, le0, qe0, pe0, gi5, i5, c9, gi14, i14, gi29, i29, c30]
            rw [hR14]
            first | refine ⟨rfl, ?_⟩ | refine ⟨(), rfl, ?_⟩
            simp -implicitDefEqProofs only [go_sem, Nat.reduceEqDiff, Nat.reduceAdd, Nat.reduceLT, Nat.reduceLeDiff, Nat.reduceMul, Nat.reduceBEq, reduceIte, he0, le0, qe0, pe0, gi5, i5, c9, gi14, i14, gi29, i29, c30]
      · clear hL14 hI14
        intro e s hr14
        rw [hR14] at hr14
        clear hR14
        revert h hr14
        generalize z14 = v17
        intro h hr14
        try dsimp only at h hr14
        obtain ⟨rfl, gi39, i39⟩ := hr14
        cases h
        simp -implicitDefEqProofs only [go_sem, Nat.reduceEqDiff, Nat.reduceAdd, Nat.reduceLT, Nat.reduceLeDiff, Nat.reduceMul, Nat.reduceBEq, reduceIte, he0, le0, qe0, pe0, gi5, i5, c9, gi39, i39]
        rw [hI5]
        simp -implicitDefEqProofs only [go_sem, Nat.reduceEqDiff, Nat.reduceAdd, Nat.reduceLT, Nat.reduceLeDiff, Nat.reduceMul, Nat.reduceBEq, reduceIte, he0, le0, qe0, pe0, gi5, i5, c9, gi39, i39]
    · cases h
      simp -implicitDefEqProofs only [go_sem, Nat.reduceEqDiff, Nat.reduceAdd, Nat.reduceLT, Nat.reduceLeDiff, Nat.reduceMul, Nat.reduceBEq, reduceIte, he0, le0, qe0, pe0, gi5, i5, c9]
      rw [hR5]
      first | refine ⟨rfl, ?_⟩ | refine ⟨(), rfl, ?_⟩
      simp -implicitDefEqProofs only [go_sem, Nat.reduceEqDiff, Nat.reduceAdd, Nat.reduceLT, Nat.reduceLeDiff, Nat.reduceMul, Nat.reduceBEq, reduceIte, he0, le0, qe0, pe0, gi5, i5, c9]
  · clear hL5 hI5
    intro e s hr5
    rw [hR5] at hr5
    clear hR5
    revert h hr5
    generalize z5 = v8
    intro h hr5
    try dsimp only at h hr5
    obtain ⟨rfl, gi40, i40⟩ := hr5
    cases h
    subst hQ
    simp -implicitDefEqProofs only [go_sem, Nat.reduceEqDiff, Nat.reduceAdd, Nat.reduceLT, Nat.reduceLeDiff, Nat.reduceMul, Nat.reduceBEq, reduceIte, he0, le0, qe0, pe0, gi40, i40, Try.results114]
theorem m_slices_stableCmpFunc__gauss_row_ev (a0 : List TGauss_row) (a1 : Int) (a2 : (TGauss_row → TGauss_row → Option Int)) (n2 : FuncId) (q2 : List GV) (hc2 : closeds q2) (hf2 : ∀ x0 x1 r, a2 x0 x1 = some r → ∀ d, Tel Try.prog TB d n2 ([.agg ((cTGauss_row x0).map .p), .agg ((cTGauss_row x1).map .p)] ++ q2) empty (.p (.int .i64 r)) empty) (r0 : (List TGauss_row)) (h : m_slices_stableCmpFunc__gauss_row a0 a1 a2 = some r0) (d : Nat) (G : Heap) (e0 t0 : Nat) (he0 : e0 ≤ d) (hGt0 : G e0 t0 = arO ((a0 : List TGauss_row).map cTGauss_row)) : Tel Try.prog TB d 97 [arV ((a0 : List TGauss_row).map cTGauss_row) (e0, t0, 0) 4, .p (.int .i64 a1), .fn n2 q2] G (.tup []) (fillKey (G) e0 t0 (arO ((r0 : List TGauss_row).map cTGauss_row))) := by
  unfold m_slices_stableCmpFunc__gauss_row at h
  refine Tel.intro mix Try.func97 rfl (Nat.le_of_ble_eq_true rfl) {openAt := fun t => t == 18 || t == 27} (by kernel_rfl) (by kernel_rfl) ?_
  have le0 : (e0 ≤ d + 1) = True := by simp; omega
  have qe0 : (e0 = d + 1) = False := by simp; omega
  have pe0 : (d + 1 = e0) = False := by simp; omega
  refine gwp_heap (H' := fillKey (cut d G) e0 t0 (arO ((a0 : List TGauss_row).map cTGauss_row))) ?_ ?_
  · rw [fill_self (B := cut d G) (a := e0) (b := t0) (by rw [cut_app, if_pos he0]; exact hGt0)]
  generalize hQ : callPost _ _ _ _ _ = Q
  simp -implicitDefEqProofs only [go_sem, Nat.reduceEqDiff, Nat.reduceAdd, Nat.reduceLT, Nat.reduceLeDiff, Nat.reduceMul, Nat.reduceBEq, reduceIte, he0, le0, qe0, pe0]
  obtain ⟨z7, hL7, h⟩ := bs h
  obtain ⟨I7, hI7⟩ : ∃ I : (Int × Int × (List TGauss_row)) → St → Prop, I = fun a s => match a with | (v8, v9, v10) => s.G = fillKey (cut d G) e0 t0 (arO ((v10 : List TGauss_row).map cTGauss_row)) ∧ s.F 0 = arV ((v10 : List TGauss_row).map cTGauss_row) (e0, t0, 0) 4 ∧ s.F 1 = .p (.int .i64 a1) ∧ s.F 2 = .fn n2 q2 ∧ s.F 6 = .p (.int .i64 20) ∧ s.F 7 = .p (.int .i64 v8) ∧ s.F 8 = .p (.int .i64 v9) ∧ True := ⟨_, rfl⟩
  obtain ⟨R7, hR7⟩ : ∃ R : (Int × (List TGauss_row)) → GE → St → Prop, R = fun x e s => match x with | (v11, v12) => e = .exit 0 ∧ s.G = fillKey (cut d G) e0 t0 (arO ((v12 : List TGauss_row).map cTGauss_row)) ∧ s.F 0 = arV ((v12 : List TGauss_row).map cTGauss_row) (e0, t0, 0) 4 ∧ s.F 1 = .p (.int .i64 a1) ∧ s.F 2 = .fn n2 q2 ∧ s.F 6 = .p (.int .i64 20) ∧ s.F 7 = .p (.int .i64 v11) ∧ True := ⟨_, rfl⟩
  refine lp (ts := []) rfl hL7 I7 R7 ?_ ?_ ?_
  · rw [hI7]
    simp -implicitDefEqProofs only [go_sem, Nat.reduceEqDiff, Nat.reduceAdd, Nat.reduceLT, Nat.reduceLeDiff, Nat.reduceMul, Nat.reduceBEq, reduceIte, he0, le0, qe0, pe0]
  · clear h hL7
    rintro ⟨v8, v9, v10⟩ y s h i
    rw [hI7] at i
    obtain ⟨gi7, i7⟩ := i
    replace h : m_slices_stableCmpFunc__gauss_row_L0 a1 a2 (v8, v9, v10) = some y := h
    unfold m_slices_stableCmpFunc__gauss_row_L0 at h
    rcases ib h with ⟨c13, h⟩ | ⟨c13, h⟩
    · obtain ⟨r14, hr14, h⟩ := bs h
      simp -implicitDefEqProofs only [go_sem, Nat.reduceEqDiff, Nat.reduceAdd, Nat.reduceLT, Nat.reduceLeDiff, Nat.reduceMul, Nat.reduceBEq, reduceIte, he0, le0, qe0, pe0, gi7, i7, c13]
      refine call_open0 (t0 := 999) (r := .tup []) (m_slices_insertionSortCmpFunc__gauss_row_ev v10 v8 v9 a2 n2 q2 hc2 hf2 r14 hr14 (d + 1) _ e0 t0 (Nat.le_succ_of_le he0) (by simp -implicitDefEqProofs only [go_sem, Nat.reduceEqDiff, Nat.reduceAdd, Nat.reduceLT, Nat.reduceLeDiff, Nat.reduceMul, Nat.reduceBEq, reduceIte, he0, le0, qe0, pe0, gi7, i7, c13]) ) (by simp -implicitDefEqProofs only [go_sem, Nat.reduceEqDiff, Nat.reduceAdd, Nat.reduceLT, Nat.reduceLeDiff, Nat.reduceMul, Nat.reduceBEq, reduceIte, he0, le0, qe0, pe0, gi7, i7, c13]) rfl (by simp -implicitDefEqProofs only [go_sem, Nat.reduceEqDiff, Nat.reduceAdd, Nat.reduceLT, Nat.reduceLeDiff, Nat.reduceMul, Nat.reduceBEq, reduceIte, he0, le0, qe0, pe0, gi7, i7, c13]) (by simp -implicitDefEqProofs only [go_sem, Nat.reduceEqDiff, Nat.reduceAdd, Nat.reduceLT, Nat.reduceLeDiff, Nat.reduceMul, Nat.reduceBEq, reduceIte, he0, le0, qe0, pe0, gi7, i7, c13]) (by simp -implicitDefEqProofs only [go_sem, Nat.reduceEqDiff, Nat.reduceAdd, Nat.reduceLT, Nat.reduceLeDiff, Nat.reduceMul, Nat.reduceBEq, reduceIte]) ?_
      have cl15 : (r14).length = ((v10 : List TGauss_row)).length := by have := len_ins hr14; (try simp only [List.length_set] at this); first | exact this | exact this.trans rfl
      have cv15 := arV_len (c := cTGauss_row) (κ := (e0, t0, 0)) (n := 4) cl15
      have ce15 := nil_len cl15
      cases h
      simp -implicitDefEqProofs only [go_sem, Nat.reduceEqDiff, Nat.reduceAdd, Nat.reduceLT, Nat.reduceLeDiff, Nat.reduceMul, Nat.reduceBEq, reduceIte, he0, le0, qe0, pe0, gi7, i7, c13, cl15, cv15, ce15]
      rw [hI7]
      simp -implicitDefEqProofs only [go_sem, Nat.reduceEqDiff, Nat.reduceAdd, Nat.reduceLT, Nat.reduceLeDiff, Nat.reduceMul, Nat.reduceBEq, reduceIte, he0, le0, qe0, pe0, gi7, i7, c13, cl15, cv15, ce15]
    · cases h
      simp -implicitDefEqProofs only [go_sem, Nat.reduceEqDiff, Nat.reduceAdd, Nat.reduceLT, Nat.reduceLeDiff, Nat.reduceMul, Nat.reduceBEq, reduceIte, he0, le0, qe0, pe0, gi7, i7, c13]
      rw [hR7]
      first | refine ⟨rfl, ?_⟩ | refine ⟨(), rfl, ?_⟩
      simp -implicitDefEqProofs only [go_sem, Nat.reduceEqDiff, Nat.reduceAdd, Nat.reduceLT, Nat.reduceLeDiff, Nat.reduceMul, Nat.reduceBEq, reduceIte, he0, le0, qe0, pe0, gi7, i7, c13]
  · clear hL7 hI7
    intro e s hr7
    rw [hR7] at hr7
    clear hR7
    rcases z7 with ⟨v11, v12⟩
    try dsimp only at h hr7
    obtain ⟨rfl, gi16, i16⟩ := hr7
    obtain ⟨r17, hr17, h⟩ := bs h
    simp -implicitDefEqProofs only [go_sem, Nat.reduceEqDiff, Nat.reduceAdd, Nat.reduceLT, Nat.reduceLeDiff, Nat.reduceMul, Nat.reduceBEq, reduceIte, he0, le0, qe0, pe0, gi16, i16]
    refine call_open0 (t0 := 999) (r := .tup []) (m_slices_insertionSortCmpFunc__gauss_row_ev v12 v11 a1 a2 n2 q2 hc2 hf2 r17 hr17 (d + 1) _ e0 t0 (Nat.le_succ_of_le he0) (by simp -implicitDefEqProofs only [go_sem, Nat.reduceEqDiff, Nat.reduceAdd, Nat.reduceLT, Nat.reduceLeDiff, Nat.reduceMul, Nat.reduceBEq, reduceIte, he0, le0, qe0, pe0, gi16, i16]) ) (by simp -implicitDefEqProofs only [go_sem, Nat.reduceEqDiff, Nat.reduceAdd, Nat.reduceLT, Nat.reduceLeDiff, Nat.reduceMul, Nat.reduceBEq, reduceIte, he0, le0, qe0, pe0, gi16, i16]) rfl (by simp -implicitDefEqProofs only [go_sem, Nat.reduceEqDiff, Nat.reduceAdd, Nat.reduceLT, Nat.reduceLeDiff, Nat.reduceMul, Nat.reduceBEq, reduceIte, he0, le0, qe0, pe0, gi16, i16]) (by simp -implicitDefEqProofs only [go_sem, Nat.reduceEqDiff, Nat.reduceAdd, Nat.reduceLT, Nat.reduceLeDiff, Nat.reduceMul, Nat.reduceBEq, reduceIte, he0, le0, qe0, pe0, gi16, i16]) (by simp -implicitDefEqProofs only [go_sem, Nat.reduceEqDiff, Nat.reduceAdd, Nat.reduceLT, Nat.reduceLeDiff, Nat.reduceMul, Nat.reduceBEq, reduceIte]) ?_
    have cl18 : (r17).length = ((v12 : List TGauss_row)).length := by have := len_ins hr17; (try simp only [List.length_set] at this); first | exact this | exact this.trans rfl
    have cv18 := arV_len (c := cTGauss_row) (κ := (e0, t0, 0)) (n := 4) cl18
    have ce18 := nil_len cl18
    simp -implicitDefEqProofs only [go_sem, Nat.reduceEqDiff, Nat.reduceAdd, Nat.reduceLT, Nat.reduceLeDiff, Nat.reduceMul, Nat.reduceBEq, reduceIte, he0, le0, qe0, pe0, gi16, i16, cl18, cv18, ce18]
    obtain ⟨z21, hL21, h⟩ := bs h
    obtain ⟨I21, hI21⟩ : ∃ I : Int → St → Prop, I = fun v22 s => s.G = fillKey (cut d G) e0 t0 (arO ((r17 : List TGauss_row).map cTGauss_row)) ∧ s.F 0 = arV ((r17 : List TGauss_row).map cTGauss_row) (e0, t0, 0) 4 ∧ s.F 1 = .p (.int .i64 a1) ∧ s.F 2 = .fn n2 q2 ∧ s.F 6 = .p (.int .i64 v22) ∧ True := ⟨_, rfl⟩
    obtain ⟨R21, hR21⟩ : ∃ R : (Unit) → GE → St → Prop, R = fun _ e s => e = .exit 2 ∧ s.G = fillKey (cut d G) e0 t0 (arO ((r17 : List TGauss_row).map cTGauss_row)) ∧ True := ⟨_, rfl⟩
    refine lp (ts := []) rfl hL21 I21 R21 ?_ ?_ ?_
    · rw [hI21]
      simp -implicitDefEqProofs only [go_sem, Nat.reduceEqDiff, Nat.reduceAdd, Nat.reduceLT, Nat.reduceLeDiff, Nat.reduceMul, Nat.reduceBEq, reduceIte, he0, le0, qe0, pe0, gi16, i16, cl18, cv18, ce18]
    · clear h hL21
      rintro v22 y s h i
      rw [hI21] at i
      obtain ⟨gi21, i21⟩ := i
      replace h : m_slices_stableCmpFunc__gauss_row_L1 a1 (v22) = some y := h
      unfold m_slices_stableCmpFunc__gauss_row_L1 at h
      rcases ib h with ⟨c23, h⟩ | ⟨c23, h⟩
      · simp -implicitDefEqProofs only [go_sem, Nat.reduceEqDiff, Nat.reduceAdd, Nat.reduceLT, Nat.reduceLeDiff, Nat.reduceMul, Nat.reduceBEq, reduceIte, he0, le0, qe0, pe0, gi16, i16, cl18, cv18, ce18, gi21, i21, c23]
        obtain ⟨z24, hL24, h⟩ := bs h
        obtain ⟨I24, hI24⟩ : ∃ I : Unit → St → Prop, I = fun a s => match a with | _ => s.G = fillKey (cut d G) e0 t0 (arO ((r17 : List TGauss_row).map cTGauss_row)) ∧ s.F 0 = arV ((r17 : List TGauss_row).map cTGauss_row) (e0, t0, 0) 4 ∧ s.F 1 = .p (.int .i64 a1) ∧ s.F 2 = .fn n2 q2 ∧ s.F 6 = .p (.int .i64 v22) ∧ s.F 7 = .p (.int .i64 0) ∧ s.F 8 = .p (.int .i64 (IntKind.wrap .i64 (2 * v22))) ∧ True := ⟨_, rfl⟩
        obtain ⟨R24, hR24⟩ : ∃ R : (Unit) → GE → St → Prop, R = fun _ e s => e = .exit 4 ∧ s.G = fillKey (cut d G) e0 t0 (arO ((r17 : List TGauss_row).map cTGauss_row)) ∧ s.F 0 = arV ((r17 : List TGauss_row).map cTGauss_row) (e0, t0, 0) 4 ∧ s.F 1 = .p (.int .i64 a1) ∧ s.F 2 = .fn n2 q2 ∧ s.F 6 = .p (.int .i64 v22) ∧ s.F 7 = .p (.int .i64 0) ∧ True := ⟨_, rfl⟩
        refine lp (ts := []) rfl hL24 I24 R24 ?_ ?_ ?_
        · rw [hI24]
          simp -implicitDefEqProofs only [go_sem, Nat.reduceEqDiff, Nat.reduceAdd, Nat.reduceLT, Nat.reduceLeDiff, Nat.reduceMul, Nat.reduceBEq, reduceIte, he0, le0, qe0, pe0, gi16, i16, cl18, cv18, ce18, gi21, i21, c23]
        · clear h hL24
          rintro a y s h i
          rw [hI24] at i
          obtain ⟨gi24, i24⟩ := i
          replace h : m_slices_stableCmpFunc__gauss_row_L2 v22 a1 a = some y := h
          unfold m_slices_stableCmpFunc__gauss_row_L2 at h
          rcases ib h with ⟨c25, h⟩ | ⟨c25, h⟩
          · cases h
          · cases h
            simp -implicitDefEqProofs only [go_sem, Nat.reduceEqDiff, Nat.reduceAdd, Nat.reduceLT, Nat.reduceLeDiff, Nat.reduceMul, Nat.reduceBEq, reduceIte, he0, le0, qe0, pe0, gi16, i16, cl18, cv18, ce18, gi21, i21, c23, gi24, i24, c25]
            rw [hR24]
            first | refine ⟨rfl, ?_⟩ | refine ⟨(), rfl, ?_⟩
            simp -implicitDefEqProofs only [go_sem, Nat.reduceEqDiff, Nat.reduceAdd, Nat.reduceLT, Nat.reduceLeDiff, Nat.reduceMul, Nat.reduceBEq, reduceIte, he0, le0, qe0, pe0, gi16, i16, cl18, cv18, ce18, gi21, i21, c23, gi24, i24, c25]
        · clear hL24 hI24
          intro e s hr24
          rw [hR24] at hr24
          clear hR24
          revert h hr24
          generalize z24 = zz
          intro h hr24
          try dsimp only at h hr24
          obtain ⟨rfl, gi26, i26⟩ := hr24
          rcases ib h with ⟨c27, h⟩ | ⟨c27, h⟩
          · cases h
          · cases h
            simp -implicitDefEqProofs only [go_sem, Nat.reduceEqDiff, Nat.reduceAdd, Nat.reduceLT, Nat.reduceLeDiff, Nat.reduceMul, Nat.reduceBEq, reduceIte, he0, le0, qe0, pe0, gi16, i16, cl18, cv18, ce18, gi21, i21, c23, gi26, i26, c27]
            rw [hI21]
            simp -implicitDefEqProofs only [go_sem, Nat.reduceEqDiff, Nat.reduceAdd, Nat.reduceLT, Nat.reduceLeDiff, Nat.reduceMul, Nat.reduceBEq, reduceIte, he0, le0, qe0, pe0, gi16, i16, cl18, cv18, ce18, gi21, i21, c23, gi26, i26, c27]
      · cases h
        simp -implicitDefEqProofs only [go_sem, Nat.reduceEqDiff, Nat.reduceAdd, Nat.reduceLT, Nat.reduceLeDiff, Nat.reduceMul, Nat.reduceBEq, reduceIte, he0, le0, qe0, pe0, gi16, i16, cl18, cv18, ce18, gi21, i21, c23]
        rw [hR21]
        first | refine ⟨rfl, ?_⟩ | refine ⟨(), rfl, ?_⟩
        simp -implicitDefEqProofs only [go_sem, Nat.reduceEqDiff, Nat.reduceAdd, Nat.reduceLT, Nat.reduceLeDiff, Nat.reduceMul, Nat.reduceBEq, reduceIte, he0, le0, qe0, pe0, gi16, i16, cl18, cv18, ce18, gi21, i21, c23]
    · clear hL21 hI21
      intro e s hr21
      rw [hR21] at hr21
      clear hR21
      revert h hr21
      generalize z21 = zz
      intro h hr21
      try dsimp only at h hr21
      obtain ⟨rfl, gi28, i28⟩ := hr21
      cases h
      subst hQ
      simp -implicitDefEqProofs only [go_sem, Nat.reduceEqDiff, Nat.reduceAdd, Nat.reduceLT, Nat.reduceLeDiff, Nat.reduceMul, Nat.reduceBEq, reduceIte, he0, le0, qe0, pe0, gi16, i16, cl18, cv18, ce18, gi28, i28, Try.results97]
theorem m_slices_SortStableFunc_gauss_row_ev (a0 : List TGauss_row) (a1 : (TGauss_row → TGauss_row → Option Int)) (n1 : FuncId) (q1 : List GV) (hc1 : closeds q1) (hf1 : ∀ x0 x1 r, a1 x0 x1 = some r → ∀ d, Tel Try.prog TB d n1 ([.agg ((cTGauss_row x0).map .p), .agg ((cTGauss_row x1).map .p)] ++ q1) empty (.p (.int .i64 r)) empty) (r0 : (List TGauss_row)) (h : m_slices_SortStableFunc_gauss_row a0 a1 = some r0) (d : Nat) (G : Heap) (e0 t0 : Nat) (he0 : e0 ≤ d) (hGt0 : G e0 t0 = arO ((a0 : List TGauss_row).map cTGauss_row)) : Tel Try.prog TB d 64 [arV ((a0 : List TGauss_row).map cTGauss_row) (e0, t0, 0) 4, .fn n1 q1] G (.tup []) (fillKey (G) e0 t0 (arO ((r0 : List TGauss_row).map cTGauss_row))) := by
  unfold m_slices_SortStableFunc_gauss_row at h
  refine Tel.intro mix Try.func64 rfl (Nat.le_of_ble_eq_true rfl) {openAt := fun t => t == 8} (by kernel_rfl) (by kernel_rfl) ?_
  have le0 : (e0 ≤ d + 1) = True := by simp; omega
  have qe0 : (e0 = d + 1) = False := by simp; omega
  have pe0 : (d + 1 = e0) = False := by simp; omega
  refine gwp_heap (H' := fillKey (cut d G) e0 t0 (arO ((a0 : List TGauss_row).map cTGauss_row))) ?_ ?_
  · rw [fill_self (B := cut d G) (a := e0) (b := t0) (by rw [cut_app, if_pos he0]; exact hGt0)]
  generalize hQ : callPost _ _ _ _ _ = Q
  obtain ⟨r1, hr1, h⟩ := bs h
  simp -implicitDefEqProofs only [go_sem, Nat.reduceEqDiff, Nat.reduceAdd, Nat.reduceLT, Nat.reduceLeDiff, Nat.reduceMul, Nat.reduceBEq, reduceIte, he0, le0, qe0, pe0]
  refine call_open0 (t0 := 999) (r := .tup []) (m_slices_stableCmpFunc__gauss_row_ev a0 (a0.length : Int) a1 n1 q1 hc1 hf1 r1 hr1 (d + 1) _ e0 t0 (Nat.le_succ_of_le he0) (by simp -implicitDefEqProofs only [go_sem, Nat.reduceEqDiff, Nat.reduceAdd, Nat.reduceLT, Nat.reduceLeDiff, Nat.reduceMul, Nat.reduceBEq, reduceIte, he0, le0, qe0, pe0]) ) (by simp -implicitDefEqProofs only [go_sem, Nat.reduceEqDiff, Nat.reduceAdd, Nat.reduceLT, Nat.reduceLeDiff, Nat.reduceMul, Nat.reduceBEq, reduceIte, he0, le0, qe0, pe0]) rfl (by simp -implicitDefEqProofs only [go_sem, Nat.reduceEqDiff, Nat.reduceAdd, Nat.reduceLT, Nat.reduceLeDiff, Nat.reduceMul, Nat.reduceBEq, reduceIte, he0, le0, qe0, pe0]) (by simp -implicitDefEqProofs only [go_sem, Nat.reduceEqDiff, Nat.reduceAdd, Nat.reduceLT, Nat.reduceLeDiff, Nat.reduceMul, Nat.reduceBEq, reduceIte, he0, le0, qe0, pe0]) (by simp -implicitDefEqProofs only [go_sem, Nat.reduceEqDiff, Nat.reduceAdd, Nat.reduceLT, Nat.reduceLeDiff, Nat.reduceMul, Nat.reduceBEq, reduceIte]) ?_
  have cl2 : (r1).length = ((a0 : List TGauss_row)).length := by have := len_stable hr1; (try simp only [List.length_set] at this); first | exact this | exact this.trans rfl
  have cv2 := arV_len (c := cTGauss_row) (κ := (e0, t0, 0)) (n := 4) cl2
  have ce2 := nil_len cl2
  cases h
  subst hQ
  simp -implicitDefEqProofs only [go_sem, Nat.reduceEqDiff, Nat.reduceAdd, Nat.reduceLT, Nat.reduceLeDiff, Nat.reduceMul, Nat.reduceBEq, reduceIte, he0, le0, qe0, pe0, cl2, cv2, ce2, Try.results64]
theorem m_gauss_Solve_ev (a0 : List TTerm) (r0 : (List TTerm) × (List Int) × Int) (h : m_gauss_Solve a0 = some r0) (d : Nat) (G : Heap) : Tel Try.prog TB d 36 [.p (.sl (a0.map cTTerm))] G (.tup [.p (.sl (r0.1.map cTTerm)), .p (.sl (r0.2.1.map cii64)), .p (.int .i64 r0.2.2)]) (G) := by
  unfold m_gauss_Solve at h
  refine Tel.intro mix Try.func36 rfl (Nat.le_of_ble_eq_true rfl) {openAt := fun t => t == 41 || t == 50, frzAt := fun t => t == 17 || t == 33, arrAt := fun t => t == 36, boxAt := fun t => if t = 7 then some 7 else if t = 30 then some 20 else if t = 38 then some 20 else if t = 65 then some 11 else if t = 70 then some 11 else if t = 1000036 then some 36 else if t = 1000068 then some 68 else if t = 1000073 then some 73 else none, clean := fun r => if r = 5 then [7] else if r = 16 then [11] else []} (by kernel_rfl) (by kernel_rfl) ?_
  generalize hQ : callPost _ _ _ _ _ = Q
  simp -implicitDefEqProofs only [go_sem, Nat.reduceEqDiff, Nat.reduceAdd, Nat.reduceLT, Nat.reduceLeDiff, Nat.reduceMul, Nat.reduceBEq, reduceIte]
  obtain ⟨v1, hz, h⟩ := bs h
  obtain ⟨R2, hR2⟩ : ∃ R : St → Prop, R = fun s => s.G = cut d G ∧ s.F 0 = .p (.sl (a0.map cTTerm)) ∧ s.F 18 = .p (.bool v1) ∧ True := ⟨_, rfl⟩
  refine cutR R2 ?_ ?_
  · replace h := hz
    rcases ib h with ⟨c3, h⟩ | ⟨c3, h⟩
    · cases h
      simp -implicitDefEqProofs only [go_sem, Nat.reduceEqDiff, Nat.reduceAdd, Nat.reduceLT, Nat.reduceLeDiff, Nat.reduceMul, Nat.reduceBEq, reduceIte, c3]
      rw [hR2]
      simp -implicitDefEqProofs only [go_sem, Nat.reduceEqDiff, Nat.reduceAdd, Nat.reduceLT, Nat.reduceLeDiff, Nat.reduceMul, Nat.reduceBEq, reduceIte, c3]
    · obtain ⟨r4, hr4, h⟩ := bs h
      simp -implicitDefEqProofs only [go_sem, Nat.reduceEqDiff, Nat.reduceAdd, Nat.reduceLT, Nat.reduceLeDiff, Nat.reduceMul, Nat.reduceBEq, reduceIte, c3]
      refine call_frz (r' := .p (.bool r4)) (m_slices_ContainsFunc_api_Term_ev a0 (fun x0 => m_gauss_Solve_1 x0) 62 [] (by simp -implicitDefEqProofs only [go_sem, Nat.reduceEqDiff, Nat.reduceAdd, Nat.reduceLT, Nat.reduceLeDiff, Nat.reduceMul, Nat.reduceBEq, reduceIte]) (fun x0 r h d => m_gauss_Solve_1_ev x0 r h d empty) r4 hr4 (d + 1) empty) (by simp -implicitDefEqProofs only [go_sem, Nat.reduceEqDiff, Nat.reduceAdd, Nat.reduceLT, Nat.reduceLeDiff, Nat.reduceMul, Nat.reduceBEq, reduceIte, c3]) rfl (by simp -implicitDefEqProofs only [go_sem, Nat.reduceEqDiff, Nat.reduceAdd, Nat.reduceLT, Nat.reduceLeDiff, Nat.reduceMul, Nat.reduceBEq, reduceIte]) (by simp -implicitDefEqProofs only [go_sem, Nat.reduceEqDiff, Nat.reduceAdd, Nat.reduceLT, Nat.reduceLeDiff, Nat.reduceMul, Nat.reduceBEq, reduceIte]) ?_ rfl rfl
      cases h
      simp -implicitDefEqProofs only [go_sem, Nat.reduceEqDiff, Nat.reduceAdd, Nat.reduceLT, Nat.reduceLeDiff, Nat.reduceMul, Nat.reduceBEq, reduceIte, c3]
      rw [hR2]
      simp -implicitDefEqProofs only [go_sem, Nat.reduceEqDiff, Nat.reduceAdd, Nat.reduceLT, Nat.reduceLeDiff, Nat.reduceMul, Nat.reduceBEq, reduceIte, c3]
  · replace h := h; clear hz
    rintro s i
    rw [hR2] at i
    obtain ⟨gi5, i5⟩ := i
    clear hR2
    try dsimp only at h
    rcases ib h with ⟨c6, h⟩ | ⟨c6, h⟩
    · cases h
      subst hQ
      simp -implicitDefEqProofs only [go_sem, Nat.reduceEqDiff, Nat.reduceAdd, Nat.reduceLT, Nat.reduceLeDiff, Nat.reduceMul, Nat.reduceBEq, reduceIte, gi5, i5, c6, Try.results36]
    · simp -implicitDefEqProofs only [go_sem, Nat.reduceEqDiff, Nat.reduceAdd, Nat.reduceLT, Nat.reduceLeDiff, Nat.reduceMul, Nat.reduceBEq, reduceIte, gi5, i5, c6]
      obtain ⟨z11, hL11, h⟩ := bs h
      obtain ⟨I11, hI11⟩ : ∃ I : (Int × (List TGauss_row)) → St → Prop, I = fun a s => match a with | (v12, v13) => s.G = fillKey (fillKey (cut d G) (d + 1) 20 [.box [arV ((v13 : List TGauss_row).map cTGauss_row) (d + 1, 36, 0) 4, .p (.bool false)]]) (d + 1) 36 (arO ((v13 : List TGauss_row).map cTGauss_row)) ∧ s.F 5 = .bp (d + 1, 20, 0) 0 ∧ s.F 21 = .p (.sl (a0.map cTTerm)) ∧ s.F 22 = .p (.int .i64 (a0.length : Int)) ∧ s.F 23 = .p (.int .i64 v12) ∧ True := ⟨_, rfl⟩
      obtain ⟨R11, hR11⟩ : ∃ R : ((List TGauss_row)) → GE → St → Prop, R = fun v14 e s => e = .exit 0 ∧ s.G = fillKey (fillKey (cut d G) (d + 1) 20 [.box [arV ((v14 : List TGauss_row).map cTGauss_row) (d + 1, 36, 0) 4, .p (.bool false)]]) (d + 1) 36 (arO ((v14 : List TGauss_row).map cTGauss_row)) ∧ s.F 5 = .bp (d + 1, 20, 0) 0 ∧ True := ⟨_, rfl⟩
      refine lp (ts := [7]) rfl hL11 I11 R11 ?_ ?_ ?_
      · rw [hI11]
        simp -implicitDefEqProofs only [go_sem, Nat.reduceEqDiff, Nat.reduceAdd, Nat.reduceLT, Nat.reduceLeDiff, Nat.reduceMul, Nat.reduceBEq, reduceIte, gi5, i5, c6]
      · clear h hL11
        rintro ⟨v12, v13⟩ y s h i
        rw [hI11] at i
        obtain ⟨gi11, i11⟩ := i
        replace h : m_gauss_Solve_L0 a0 (v12, v13) = some y := h
        unfold m_gauss_Solve_L0 at h
        rcases ib h with ⟨c15, h⟩ | ⟨c15, h⟩
        · obtain ⟨v16, hv16, h⟩ := bs h
          replace hv16 := gis hv16
          obtain ⟨r17, hr17, h⟩ := bs h
          simp -implicitDefEqProofs only [go_sem, Nat.reduceEqDiff, Nat.reduceAdd, Nat.reduceLT, Nat.reduceLeDiff, Nat.reduceMul, Nat.reduceBEq, reduceIte, gi5, i5, c6, gi11, i11, c15, hv16]
          refine call_frz (r' := .agg [.p (.sl (r17.f0.map cTRat)), .p (.int .i64 r17.f1.f0), .p (.int .i64 r17.f1.f1)]) (m_term_Own_ev v16 r17 hr17 (d + 1) empty) (by simp -implicitDefEqProofs only [go_sem, Nat.reduceEqDiff, Nat.reduceAdd, Nat.reduceLT, Nat.reduceLeDiff, Nat.reduceMul, Nat.reduceBEq, reduceIte, gi5, i5, c6, gi11, i11, c15, hv16]) rfl (by simp -implicitDefEqProofs only [go_sem, Nat.reduceEqDiff, Nat.reduceAdd, Nat.reduceLT, Nat.reduceLeDiff, Nat.reduceMul, Nat.reduceBEq, reduceIte]) (by simp -implicitDefEqProofs only [go_sem, Nat.reduceEqDiff, Nat.reduceAdd, Nat.reduceLT, Nat.reduceLeDiff, Nat.reduceMul, Nat.reduceBEq, reduceIte]) ?_ rfl rfl
          obtain ⟨_, c18, h⟩ := bs h
          replace c18 := rqs c18
          simp -implicitDefEqProofs only [go_sem, Nat.reduceEqDiff, Nat.reduceAdd, Nat.reduceLT, Nat.reduceLeDiff, Nat.reduceMul, Nat.reduceBEq, reduceIte, gi5, i5, c6, gi11, i11, c15, hv16, c18]
          refine append_A (l := (v13 : List TGauss_row)) (m := ([(⟨r17, -1⟩ : TGauss_row)] : List TGauss_row)) (c := cTGauss_row) (he := el126) (hx := by simp -implicitDefEqProofs only [go_sem, Nat.reduceEqDiff, Nat.reduceAdd, Nat.reduceLT, Nat.reduceLeDiff, Nat.reduceMul, Nat.reduceBEq, reduceIte, gi5, i5, c6, gi11, i11, c15, hv16, c18]) (hc := fun _ => rfl) (hm := by simp) (ha := rfl) (hra := rfl) (hb := by simpa using c18) (hbb := by decide) (hG := by simp -implicitDefEqProofs only [go_sem, Nat.reduceEqDiff, Nat.reduceAdd, Nat.reduceLT, Nat.reduceLeDiff, Nat.reduceMul, Nat.reduceBEq, reduceIte, gi5, i5, c6, gi11, i11, c15, hv16, c18]) (hn := fun _ => ⟨rfl, rfl⟩) ?_
          have c19 : ((v13 ++ ([(⟨r17, -1⟩ : TGauss_row)])) : List TGauss_row) ≠ [] := by simp
          cases h
          simp -implicitDefEqProofs only [go_sem, Nat.reduceEqDiff, Nat.reduceAdd, Nat.reduceLT, Nat.reduceLeDiff, Nat.reduceMul, Nat.reduceBEq, reduceIte, gi5, i5, c6, gi11, i11, c15, hv16, c18, c19]
          rw [hI11]
          simp -implicitDefEqProofs only [go_sem, Nat.reduceEqDiff, Nat.reduceAdd, Nat.reduceLT, Nat.reduceLeDiff, Nat.reduceMul, Nat.reduceBEq, reduceIte, gi5, i5, c6, gi11, i11, c15, hv16, c18, c19]
        · cases h
          simp -implicitDefEqProofs only [go_sem, Nat.reduceEqDiff, Nat.reduceAdd, Nat.reduceLT, Nat.reduceLeDiff, Nat.reduceMul, Nat.reduceBEq, reduceIte, gi5, i5, c6, gi11, i11, c15]
          rw [hR11]
          first | refine ⟨rfl, ?_⟩ | refine ⟨(), rfl, ?_⟩
          simp -implicitDefEqProofs only [go_sem, Nat.reduceEqDiff, Nat.reduceAdd, Nat.reduceLT, Nat.reduceLeDiff, Nat.reduceMul, Nat.reduceBEq, reduceIte, gi5, i5, c6, gi11, i11, c15]
      · clear hL11 hI11
        intro e s hr11
        rw [hR11] at hr11
        clear hR11
        revert h hr11
        generalize z11 = v14
        intro h hr11
        try dsimp only at h hr11
        obtain ⟨rfl, gi20, i20⟩ := hr11
        obtain ⟨r21, hr21, h⟩ := bs h
        simp -implicitDefEqProofs only [go_sem, Nat.reduceEqDiff, Nat.reduceAdd, Nat.reduceLT, Nat.reduceLeDiff, Nat.reduceMul, Nat.reduceBEq, reduceIte, gi5, i5, c6, gi20, i20]
        refine call_open0 (t0 := 999) (r := .tup []) (m_gauss_system_solve_ev (⟨v14, false⟩ : TGauss_system) r21 hr21 (d + 1) _ (d + 1) 20 36 (Nat.le_refl _) (by simp -implicitDefEqProofs only [go_sem, Nat.reduceEqDiff, Nat.reduceAdd, Nat.reduceLT, Nat.reduceLeDiff, Nat.reduceMul, Nat.reduceBEq, reduceIte, gi5, i5, c6, gi20, i20]) (by simp -implicitDefEqProofs only [go_sem, Nat.reduceEqDiff, Nat.reduceAdd, Nat.reduceLT, Nat.reduceLeDiff, Nat.reduceMul, Nat.reduceBEq, reduceIte, gi5, i5, c6, gi20, i20]) (by simp) (by simp)) (by simp -implicitDefEqProofs only [go_sem, Nat.reduceEqDiff, Nat.reduceAdd, Nat.reduceLT, Nat.reduceLeDiff, Nat.reduceMul, Nat.reduceBEq, reduceIte, gi5, i5, c6, gi20, i20]) rfl (by simp -implicitDefEqProofs only [go_sem, Nat.reduceEqDiff, Nat.reduceAdd, Nat.reduceLT, Nat.reduceLeDiff, Nat.reduceMul, Nat.reduceBEq, reduceIte, gi5, i5, c6, gi20, i20]) (by simp -implicitDefEqProofs only [go_sem, Nat.reduceEqDiff, Nat.reduceAdd, Nat.reduceLT, Nat.reduceLeDiff, Nat.reduceMul, Nat.reduceBEq, reduceIte, gi5, i5, c6, gi20, i20]) (by simp -implicitDefEqProofs only [go_sem, Nat.reduceEqDiff, Nat.reduceAdd, Nat.reduceLT, Nat.reduceLeDiff, Nat.reduceMul, Nat.reduceBEq, reduceIte]) ?_
        rcases ib h with ⟨c22, h⟩ | ⟨c22, h⟩
        · cases h
          subst hQ
          simp -implicitDefEqProofs only [go_sem, Nat.reduceEqDiff, Nat.reduceAdd, Nat.reduceLT, Nat.reduceLeDiff, Nat.reduceMul, Nat.reduceBEq, reduceIte, gi5, i5, c6, gi20, i20, c22, Try.results36]
        · obtain ⟨r23, hr23, h⟩ := bs h
          simp -implicitDefEqProofs only [go_sem, Nat.reduceEqDiff, Nat.reduceAdd, Nat.reduceLT, Nat.reduceLeDiff, Nat.reduceMul, Nat.reduceBEq, reduceIte, gi5, i5, c6, gi20, i20, c22]
          refine call_open0 (t0 := 999) (r := .tup []) (m_slices_SortStableFunc_gauss_row_ev r21.f0 (fun x0 x1 => m_gauss_Solve_2 x0 x1) 65 [] (by simp -implicitDefEqProofs only [go_sem, Nat.reduceEqDiff, Nat.reduceAdd, Nat.reduceLT, Nat.reduceLeDiff, Nat.reduceMul, Nat.reduceBEq, reduceIte]) (fun x0 x1 r h d => m_gauss_Solve_2_ev x0 x1 r h d empty) r23 hr23 (d + 1) _ (d + 1) 36 (Nat.le_refl _) (by simp -implicitDefEqProofs only [go_sem, Nat.reduceEqDiff, Nat.reduceAdd, Nat.reduceLT, Nat.reduceLeDiff, Nat.reduceMul, Nat.reduceBEq, reduceIte, gi5, i5, c6, gi20, i20, c22]) ) (by simp -implicitDefEqProofs only [go_sem, Nat.reduceEqDiff, Nat.reduceAdd, Nat.reduceLT, Nat.reduceLeDiff, Nat.reduceMul, Nat.reduceBEq, reduceIte, gi5, i5, c6, gi20, i20, c22]) rfl (by simp -implicitDefEqProofs only [go_sem, Nat.reduceEqDiff, Nat.reduceAdd, Nat.reduceLT, Nat.reduceLeDiff, Nat.reduceMul, Nat.reduceBEq, reduceIte, gi5, i5, c6, gi20, i20, c22]) (by simp -implicitDefEqProofs only [go_sem, Nat.reduceEqDiff, Nat.reduceAdd, Nat.reduceLT, Nat.reduceLeDiff, Nat.reduceMul, Nat.reduceBEq, reduceIte, gi5, i5, c6, gi20, i20, c22]) (by simp -implicitDefEqProofs only [go_sem, Nat.reduceEqDiff, Nat.reduceAdd, Nat.reduceLT, Nat.reduceLeDiff, Nat.reduceMul, Nat.reduceBEq, reduceIte]) ?_
          have cl24 : (r23).length = ((r21.f0 : List TGauss_row)).length := by have := len_sort hr23; (try simp only [List.length_set] at this); first | exact this | exact this.trans rfl
          have cv24 := arV_len (c := cTGauss_row) (κ := (d + 1, 36, 0)) (n := 4) cl24
          have ce24 := nil_len cl24
          simp -implicitDefEqProofs only [go_sem, Nat.reduceEqDiff, Nat.reduceAdd, Nat.reduceLT, Nat.reduceLeDiff, Nat.reduceMul, Nat.reduceBEq, reduceIte, gi5, i5, c6, gi20, i20, c22, cl24, cv24, ce24]
          obtain ⟨z35, hL35, h⟩ := bs h
          obtain ⟨I35, hI35⟩ : ∃ I : ((List TTerm) × (List Int) × Int) → St → Prop, I = fun a s => match a with | (v36, v38, v40) => ∃ o37 o39, s.G = fillKey (fillKey (fillKey (fillKey (cut d G) (d + 1) 20 [.box [arV ((r23 : List TGauss_row).map cTGauss_row) (d + 1, 36, 0) 4, .p (.bool r21.f1)]]) (d + 1) 36 (arO ((r23 : List TGauss_row).map cTGauss_row))) (d + 1) 68 (growO o37 68 3 (v36.map cTTerm))) (d + 1) 73 (growO o39 73 1 (v38.map cii64)) ∧ growOK o37 [68] ∧ growOK o39 [73] ∧ s.F 8 = growV o37 (d + 1) (v36.map cTTerm) ∧ s.F 9 = growV o39 (d + 1) (v38.map cii64) ∧ s.F 54 = arV ((r23 : List TGauss_row).map cTGauss_row) (d + 1, 36, 0) 4 ∧ s.F 55 = .p (.int .i64 (r21.f0.length : Int)) ∧ s.F 56 = .p (.int .i64 v40) ∧ True := ⟨_, rfl⟩
          obtain ⟨R35, hR35⟩ : ∃ R : (((List TTerm) × (List Int)) ⊕ ((List TTerm) × (List Int) × Int)) → GE → St → Prop, R = fun x e s => match x with | .inl (v41, v43) => e = .exit 2 ∧ (∃ o42 o44, s.G = fillKey (fillKey (fillKey (fillKey (cut d G) (d + 1) 20 [.box [arV ((r23 : List TGauss_row).map cTGauss_row) (d + 1, 36, 0) 4, .p (.bool r21.f1)]]) (d + 1) 36 (arO ((r23 : List TGauss_row).map cTGauss_row))) (d + 1) 68 (growO o42 68 3 (v41.map cTTerm))) (d + 1) 73 (growO o44 73 1 (v43.map cii64)) ∧ growOK o42 [68] ∧ growOK o44 [73] ∧ s.F 8 = growV o42 (d + 1) (v41.map cTTerm) ∧ s.F 9 = growV o44 (d + 1) (v43.map cii64) ∧ True) | .inr r => e = .ret ∧ (r = r0 → Q .ret s) := ⟨_, rfl⟩
          refine lp (ts := [11]) rfl hL35 I35 R35 ?_ ?_ ?_
          · rw [hI35]
            refine ⟨none, none, ?_⟩
            simp -implicitDefEqProofs only [go_sem, Nat.reduceEqDiff, Nat.reduceAdd, Nat.reduceLT, Nat.reduceLeDiff, Nat.reduceMul, Nat.reduceBEq, reduceIte, gi5, i5, c6, gi20, i20, c22, cl24, cv24, ce24]
          · clear h hL35
            rintro ⟨v36, v38, v40⟩ y s h i
            rw [hI35] at i
            obtain ⟨o37, o39, gi35, ko37, ko39, i35⟩ := i
            replace h : m_gauss_Solve_L1 r21 r23 (v36, v38, v40) = some y := h
            unfold m_gauss_Solve_L1 at h
            rcases ib h with ⟨c45, h⟩ | ⟨c45, h⟩
            · obtain ⟨_, c46, h⟩ := bs h
              replace c46 := rqs c46
              obtain ⟨_, c47, h⟩ := bs h
              replace c47 := rqs c47
              have c48 := ne_of_idx c46 c47
              obtain ⟨v49, hv49, h⟩ := bs h
              replace hv49 := gis hv49
              simp -implicitDefEqProofs only [go_sem, Nat.reduceEqDiff, Nat.reduceAdd, Nat.reduceLT, Nat.reduceLeDiff, Nat.reduceMul, Nat.reduceBEq, reduceIte, gi5, i5, c6, gi20, i20, c22, cl24, cv24, ce24, gi35, ko37, ko39, i35, c45, c46, c47, c48, hv49]
              obtain ⟨z54, hz, hk54⟩ := bs h
              obtain ⟨R54, hR54⟩ : ∃ R : St → Prop, R = fun s => ∃ v50 v52, z54 = .inl (v50, v52) ∧ ∃ o51 o53, s.G = fillKey (fillKey (fillKey (fillKey (fillKey (cut d G) (d + 1) 11 [.box [.p (.sl (v49.f0.f0.map cTRat)), .p (.int .i64 v49.f0.f1.f0), .p (.int .i64 v49.f0.f1.f1), .p (.int .i64 v49.f1)]]) (d + 1) 20 [.box [arV ((r23 : List TGauss_row).map cTGauss_row) (d + 1, 36, 0) 4, .p (.bool r21.f1)]]) (d + 1) 36 (arO ((r23 : List TGauss_row).map cTGauss_row))) (d + 1) 68 (growO o51 68 3 (v50.map cTTerm))) (d + 1) 73 (growO o53 73 1 (v52.map cii64)) ∧ growOK o51 [68] ∧ growOK o53 [73] ∧ s.F 8 = growV o51 (d + 1) (v50.map cTTerm) ∧ s.F 9 = growV o53 (d + 1) (v52.map cii64) ∧ s.F 54 = arV ((r23 : List TGauss_row).map cTGauss_row) (d + 1, 36, 0) 4 ∧ s.F 55 = .p (.int .i64 (r21.f0.length : Int)) ∧ s.F 56 = .p (.int .i64 v40) ∧ True := ⟨_, rfl⟩
              refine cutG R54 ?_ ?_
              · replace h := hz
                rcases ib h with ⟨c55, h⟩ | ⟨c55, h⟩
                · obtain ⟨_, c56, h⟩ := bs h
                  replace c56 := rqs c56
                  simp -implicitDefEqProofs only [go_sem, Nat.reduceEqDiff, Nat.reduceAdd, Nat.reduceLT, Nat.reduceLeDiff, Nat.reduceMul, Nat.reduceBEq, reduceIte, gi5, i5, c6, gi20, i20, c22, cl24, cv24, ce24, gi35, ko37, ko39, i35, c45, c46, c47, c48, hv49, c55, c56, appG_grow (k := 68) ko37, appG_grow_p (k := 68) ko37]
                  refine append_G (o := o37) (ts := [68]) (es := (v36 : List TTerm).map cTTerm) (xs := ([v49.f0] : List TTerm).map cTTerm) (ho := growOK.sub ko37 (by decide)) (hG := by simp -implicitDefEqProofs only [go_sem, Nat.reduceEqDiff, Nat.reduceAdd, Nat.reduceLT, Nat.reduceLeDiff, Nat.reduceMul, Nat.reduceBEq, reduceIte, gi5, i5, c6, gi20, i20, c22, cl24, cv24, ce24, gi35, ko37, ko39, i35, c45, c46, c47, c48, hv49, c55, c56]) (hj := by simp -implicitDefEqProofs only [go_sem, Nat.reduceEqDiff, Nat.reduceAdd, Nat.reduceLT, Nat.reduceLeDiff, Nat.reduceMul, Nat.reduceBEq, reduceIte]) (he := el94) (hx := by simp -implicitDefEqProofs only [go_sem, Nat.reduceEqDiff, Nat.reduceAdd, Nat.reduceLT, Nat.reduceLeDiff, Nat.reduceMul, Nat.reduceBEq, reduceIte, gi5, i5, c6, gi20, i20, c22, cl24, cv24, ce24, gi35, ko37, ko39, i35, c45, c46, c47, c48, hv49, c55, c56]) (h1 := by simp -implicitDefEqProofs only [go_sem, Nat.reduceEqDiff, Nat.reduceAdd, Nat.reduceLT, Nat.reduceLeDiff, Nat.reduceMul, Nat.reduceBEq, reduceIte]) (h2 := by simp -implicitDefEqProofs only [go_sem, Nat.reduceEqDiff, Nat.reduceAdd, Nat.reduceLT, Nat.reduceLeDiff, Nat.reduceMul, Nat.reduceBEq, reduceIte]) (ha := rfl) (hra := rfl) (hb := by simpa using c56) (hbb := by decide) ?_
                  intro o57 ko57
                  obtain ⟨_, c58, h⟩ := bs h
                  replace c58 := rqs c58
                  simp -implicitDefEqProofs only [go_sem, Nat.reduceEqDiff, Nat.reduceAdd, Nat.reduceLT, Nat.reduceLeDiff, Nat.reduceMul, Nat.reduceBEq, reduceIte, gi5, i5, c6, gi20, i20, c22, cl24, cv24, ce24, gi35, ko37, ko39, i35, c45, c46, c47, c48, hv49, c55, c56, ko57, c58, appG_grow (k := 73) ko39, appG_grow_p (k := 73) ko39]
                  refine append_G (o := o39) (ts := [73]) (es := (v38 : List Int).map cii64) (xs := ([v49.f1] : List Int).map cii64) (ho := growOK.sub ko39 (by decide)) (hG := by simp -implicitDefEqProofs only [go_sem, Nat.reduceEqDiff, Nat.reduceAdd, Nat.reduceLT, Nat.reduceLeDiff, Nat.reduceMul, Nat.reduceBEq, reduceIte, gi5, i5, c6, gi20, i20, c22, cl24, cv24, ce24, gi35, ko37, ko39, i35, c45, c46, c47, c48, hv49, c55, c56, ko57, c58]) (hj := by simp -implicitDefEqProofs only [go_sem, Nat.reduceEqDiff, Nat.reduceAdd, Nat.reduceLT, Nat.reduceLeDiff, Nat.reduceMul, Nat.reduceBEq, reduceIte]) (he := el46) (hx := by simp -implicitDefEqProofs only [go_sem, Nat.reduceEqDiff, Nat.reduceAdd, Nat.reduceLT, Nat.reduceLeDiff, Nat.reduceMul, Nat.reduceBEq, reduceIte, gi5, i5, c6, gi20, i20, c22, cl24, cv24, ce24, gi35, ko37, ko39, i35, c45, c46, c47, c48, hv49, c55, c56, ko57, c58]) (h1 := by simp -implicitDefEqProofs only [go_sem, Nat.reduceEqDiff, Nat.reduceAdd, Nat.reduceLT, Nat.reduceLeDiff, Nat.reduceMul, Nat.reduceBEq, reduceIte]) (h2 := by simp -implicitDefEqProofs only [go_sem, Nat.reduceEqDiff, Nat.reduceAdd, Nat.reduceLT, Nat.reduceLeDiff, Nat.reduceMul, Nat.reduceBEq, reduceIte]) (ha := rfl) (hra := rfl) (hb := by simpa using c58) (hbb := by decide) ?_
                  intro o59 ko59
                  cases h
                  simp -implicitDefEqProofs only [go_sem, Nat.reduceEqDiff, Nat.reduceAdd, Nat.reduceLT, Nat.reduceLeDiff, Nat.reduceMul, Nat.reduceBEq, reduceIte, gi5, i5, c6, gi20, i20, c22, cl24, cv24, ce24, gi35, ko37, ko39, i35, c45, c46, c47, c48, hv49, c55, c56, ko57, c58, ko59]
                  rw [hR54]
                  refine ⟨(v36 ++ ([v49.f0])), (v38 ++ ([v49.f1])), rfl, o57, o59, ?_⟩
                  simp -implicitDefEqProofs only [go_sem, Nat.reduceEqDiff, Nat.reduceAdd, Nat.reduceLT, Nat.reduceLeDiff, Nat.reduceMul, Nat.reduceBEq, reduceIte, gi5, i5, c6, gi20, i20, c22, cl24, cv24, ce24, gi35, ko37, ko39, i35, c45, c46, c47, c48, hv49, c55, c56, ko57, c58, ko59]
                · rcases ib h with ⟨c60, h⟩ | ⟨c60, h⟩
                  · obtain ⟨y54, hy54, hz54⟩ := bs h
                    replace hz54 := Option.some.inj hz54
                    subst hz54
                    replace hk54 := hk54
                    dsimp only at hk54
                    replace hk54 := Option.some.inj hk54
                    subst hk54
                    have h := hy54
                    cases h
                    simp -implicitDefEqProofs only [go_sem, Nat.reduceEqDiff, Nat.reduceAdd, Nat.reduceLT, Nat.reduceLeDiff, Nat.reduceMul, Nat.reduceBEq, reduceIte, gi5, i5, c6, gi20, i20, c22, cl24, cv24, ce24, gi35, ko37, ko39, i35, c45, c46, c47, c48, hv49, c55, c60]
                    rw [hR35]
                    refine ⟨rfl, ?_⟩
                    intro hr
                    subst hr
                    subst hQ
                    simp -implicitDefEqProofs only [go_sem, Nat.reduceEqDiff, Nat.reduceAdd, Nat.reduceLT, Nat.reduceLeDiff, Nat.reduceMul, Nat.reduceBEq, reduceIte, gi5, i5, c6, gi20, i20, c22, cl24, cv24, ce24, gi35, ko37, ko39, i35, c45, c46, c47, c48, hv49, c55, c60, Try.results36]
                  · cases h
                    simp -implicitDefEqProofs only [go_sem, Nat.reduceEqDiff, Nat.reduceAdd, Nat.reduceLT, Nat.reduceLeDiff, Nat.reduceMul, Nat.reduceBEq, reduceIte, gi5, i5, c6, gi20, i20, c22, cl24, cv24, ce24, gi35, ko37, ko39, i35, c45, c46, c47, c48, hv49, c55, c60]
                    rw [hR54]
                    refine ⟨v36, v38, rfl, o37, o39, ?_⟩
                    simp -implicitDefEqProofs only [go_sem, Nat.reduceEqDiff, Nat.reduceAdd, Nat.reduceLT, Nat.reduceLeDiff, Nat.reduceMul, Nat.reduceBEq, reduceIte, gi5, i5, c6, gi20, i20, c22, cl24, cv24, ce24, gi35, ko37, ko39, i35, c45, c46, c47, c48, hv49, c55, c60]
              · rintro s i
                rw [hR54] at i
                obtain ⟨v50, v52, rfl, o51, o53, gi61, ko51, ko53, i61⟩ := i
                clear hR54 hz
                replace h := hk54; clear hk54
                try dsimp only at h
                cases h
                simp -implicitDefEqProofs only [go_sem, Nat.reduceEqDiff, Nat.reduceAdd, Nat.reduceLT, Nat.reduceLeDiff, Nat.reduceMul, Nat.reduceBEq, reduceIte, gi5, i5, c6, gi20, i20, c22, cl24, cv24, ce24, gi35, ko37, ko39, i35, c45, c46, c47, c48, hv49, gi61, ko51, ko53, i61]
                rw [hI35]
                refine ⟨o51, o53, ?_⟩
                simp -implicitDefEqProofs only [go_sem, Nat.reduceEqDiff, Nat.reduceAdd, Nat.reduceLT, Nat.reduceLeDiff, Nat.reduceMul, Nat.reduceBEq, reduceIte, gi5, i5, c6, gi20, i20, c22, cl24, cv24, ce24, gi35, ko37, ko39, i35, c45, c46, c47, c48, hv49, gi61, ko51, ko53, i61, poison_grow (d := d + 1) (ts := [11]) ko51 (by decide), poison_grow (d := d + 1) (ts := [11]) ko53 (by decide)]
            · cases h
              simp -implicitDefEqProofs only [go_sem, Nat.reduceEqDiff, Nat.reduceAdd, Nat.reduceLT, Nat.reduceLeDiff, Nat.reduceMul, Nat.reduceBEq, reduceIte, gi5, i5, c6, gi20, i20, c22, cl24, cv24, ce24, gi35, ko37, ko39, i35, c45]
              rw [hR35]
              first | refine ⟨rfl, o37, o39, ?_⟩ | refine ⟨(), rfl, o37, o39, ?_⟩
              simp -implicitDefEqProofs only [go_sem, Nat.reduceEqDiff, Nat.reduceAdd, Nat.reduceLT, Nat.reduceLeDiff, Nat.reduceMul, Nat.reduceBEq, reduceIte, gi5, i5, c6, gi20, i20, c22, cl24, cv24, ce24, gi35, ko37, ko39, i35, c45]
          · clear hL35 hI35
            intro e s hr35
            rw [hR35] at hr35
            clear hR35
            rcases z35 with ⟨v41, v43⟩ | r
            · try dsimp only at h hr35
              obtain ⟨rfl, o42, o44, gi62, ko42, ko44, i62⟩ := hr35
              cases h
              subst hQ
              simp -implicitDefEqProofs only [go_sem, Nat.reduceEqDiff, Nat.reduceAdd, Nat.reduceLT, Nat.reduceLeDiff, Nat.reduceMul, Nat.reduceBEq, reduceIte, gi5, i5, c6, gi20, i20, c22, cl24, cv24, ce24, gi62, ko42, ko44, i62, Try.results36]
            · try dsimp only at h hr35
              obtain ⟨rfl, hr35⟩ := hr35
              cases h
              try simp -implicitDefEqProofs only [go_sem, Nat.reduceEqDiff, Nat.reduceAdd, Nat.reduceLT, Nat.reduceLeDiff, Nat.reduceMul, Nat.reduceBEq, reduceIte]
              exact hr35 rfl
theorem m_slices_Repeat_api_Rat_ev (a0 : List TRat) (a1 : Int) (r0 : List TRat) (h : m_slices_Repeat_api_Rat a0 a1 = some r0) (d : Nat) (G : Heap) : Tel Try.prog TB d 71 [.p (.sl (a0.map cTRat)), .p (.int .i64 a1)] G (.oar (r0.map cTRat) 2) G := by
  unfold m_slices_Repeat_api_Rat at h
  match a0, h with
  | [], h => cases h
  | [x], h =>
    obtain ⟨_, c, h⟩ := bs h
    obtain rfl := rqs c
    cases h
    exact repeat_ev (.int .i64 x.f0) (.int .i64 x.f1) d G
  | _ :: _ :: _, h => cases h
theorem m_slices_IndexFunc_api_Row_ev (a0 : List TRow) (a1 : (TRow → Option Bool)) (n1 : FuncId) (q1 : List GV) (hc1 : closeds q1) (hf1 : ∀ x0 r, a1 x0 = some r → ∀ d, Tel Try.prog TB d n1 ([.agg ((cTRow x0).map .p)] ++ q1) empty (.p (.bool r)) empty) (r0 : Int) (h : m_slices_IndexFunc_api_Row a0 a1 = some r0) (d : Nat) (G : Heap) : Tel Try.prog TB d 34 [.p (.sl (a0.map cTRow)), .fn n1 q1] G (.p (.int .i64 r0)) (G) := by
  unfold m_slices_IndexFunc_api_Row at h
  refine Tel.intro mix Try.func34 rfl (Nat.le_of_ble_eq_true rfl) {frzAt := fun t => t == 16} (by kernel_rfl) (by kernel_rfl) ?_
  generalize hQ : callPost _ _ _ _ _ = Q
  simp -implicitDefEqProofs only [go_sem, Nat.reduceEqDiff, Nat.reduceAdd, Nat.reduceLT, Nat.reduceLeDiff, Nat.reduceMul, Nat.reduceBEq, reduceIte]
  obtain ⟨z3, hL3, h⟩ := bs h
  obtain ⟨I3, hI3⟩ : ∃ I : Int → St → Prop, I = fun v4 s => s.G = cut d G ∧ s.F 0 = .p (.sl (a0.map cTRow)) ∧ s.F 1 = .fn n1 q1 ∧ s.F 7 = .p (.int .i64 (a0.length : Int)) ∧ s.F 8 = .p (.int .i64 v4) ∧ True := ⟨_, rfl⟩
  obtain ⟨R3, hR3⟩ : ∃ R : ((Unit) ⊕ (Int)) → GE → St → Prop, R = fun x e s => match x with | .inl _ => e = .exit 0 ∧ s.G = cut d G ∧ True | .inr r => e = .ret ∧ (r = r0 → Q .ret s) := ⟨_, rfl⟩
  refine lp (ts := []) rfl hL3 I3 R3 ?_ ?_ ?_
  · rw [hI3]
    simp -implicitDefEqProofs only [go_sem, Nat.reduceEqDiff, Nat.reduceAdd, Nat.reduceLT, Nat.reduceLeDiff, Nat.reduceMul, Nat.reduceBEq, reduceIte]
  · clear h hL3
    rintro v4 y s h i
    rw [hI3] at i
    obtain ⟨gi3, i3⟩ := i
    replace h : m_slices_IndexFunc_api_Row_L0 a0 a1 (v4) = some y := h
    unfold m_slices_IndexFunc_api_Row_L0 at h
    rcases ib h with ⟨c5, h⟩ | ⟨c5, h⟩
    · obtain ⟨v6, hv6, h⟩ := bs h
      replace hv6 := gis hv6
      obtain ⟨r7, hr7, h⟩ := bs h
      simp -implicitDefEqProofs only [go_sem, Nat.reduceEqDiff, Nat.reduceAdd, Nat.reduceLT, Nat.reduceLeDiff, Nat.reduceMul, Nat.reduceBEq, reduceIte, gi3, i3, c5, hv6]
      refine call_frz (r' := .p (.bool r7)) (hf1 v6 r7 hr7 (d + 1)) (by simp -implicitDefEqProofs only [go_sem, Nat.reduceEqDiff, Nat.reduceAdd, Nat.reduceLT, Nat.reduceLeDiff, Nat.reduceMul, Nat.reduceBEq, reduceIte, gi3, i3, c5, hv6]) rfl (by simp -implicitDefEqProofs only [go_sem, Nat.reduceEqDiff, Nat.reduceAdd, Nat.reduceLT, Nat.reduceLeDiff, Nat.reduceMul, Nat.reduceBEq, reduceIte, hc1]) (by simp -implicitDefEqProofs only [go_sem, Nat.reduceEqDiff, Nat.reduceAdd, Nat.reduceLT, Nat.reduceLeDiff, Nat.reduceMul, Nat.reduceBEq, reduceIte]) ?_ rfl rfl
      rcases ib h with ⟨c8, h⟩ | ⟨c8, h⟩
      · cases h
        simp -implicitDefEqProofs only [go_sem, Nat.reduceEqDiff, Nat.reduceAdd, Nat.reduceLT, Nat.reduceLeDiff, Nat.reduceMul, Nat.reduceBEq, reduceIte, gi3, i3, c5, hv6, c8]
        rw [hR3]
        refine ⟨rfl, ?_⟩
        intro hr
        subst hr
        subst hQ
        simp -implicitDefEqProofs only [go_sem, Nat.reduceEqDiff, Nat.reduceAdd, Nat.reduceLT, Nat.reduceLeDiff, Nat.reduceMul, Nat.reduceBEq, reduceIte, gi3, i3, c5, hv6, c8, Try.results34]
      · cases h
        simp -implicitDefEqProofs only [go_sem, Nat.reduceEqDiff, Nat.reduceAdd, Nat.reduceLT, Nat.reduceLeDiff, Nat.reduceMul, Nat.reduceBEq, reduceIte, gi3, i3, c5, hv6, c8]
        rw [hI3]
        simp -implicitDefEqProofs only [go_sem, Nat.reduceEqDiff, Nat.reduceAdd, Nat.reduceLT, Nat.reduceLeDiff, Nat.reduceMul, Nat.reduceBEq, reduceIte, gi3, i3, c5, hv6, c8]
    · cases h
      simp -implicitDefEqProofs only [go_sem, Nat.reduceEqDiff, Nat.reduceAdd, Nat.reduceLT, Nat.reduceLeDiff, Nat.reduceMul, Nat.reduceBEq, reduceIte, gi3, i3, c5]
      rw [hR3]
      first | refine ⟨rfl, ?_⟩ | refine ⟨(), rfl, ?_⟩
      simp -implicitDefEqProofs only [go_sem, Nat.reduceEqDiff, Nat.reduceAdd, Nat.reduceLT, Nat.reduceLeDiff, Nat.reduceMul, Nat.reduceBEq, reduceIte, gi3, i3, c5]
  · clear hL3 hI3
    intro e s hr3
    rw [hR3] at hr3
    clear hR3
    rcases z3 with _ | r
    · try dsimp only at h hr3
      obtain ⟨rfl, gi9, i9⟩ := hr3
      cases h
      subst hQ
      simp -implicitDefEqProofs only [go_sem, Nat.reduceEqDiff, Nat.reduceAdd, Nat.reduceLT, Nat.reduceLeDiff, Nat.reduceMul, Nat.reduceBEq, reduceIte, gi9, i9, Try.results34]
    · try dsimp only at h hr3
      obtain ⟨rfl, hr3⟩ := hr3
      cases h
      try simp -implicitDefEqProofs only [go_sem, Nat.reduceEqDiff, Nat.reduceAdd, Nat.reduceLT, Nat.reduceLeDiff, Nat.reduceMul, Nat.reduceBEq, reduceIte]
      exact hr3 rfl
theorem m_slices_ContainsFunc_api_Row_ev (a0 : List TRow) (a1 : (TRow → Option Bool)) (n1 : FuncId) (q1 : List GV) (hc1 : closeds q1) (hf1 : ∀ x0 r, a1 x0 = some r → ∀ d, Tel Try.prog TB d n1 ([.agg ((cTRow x0).map .p)] ++ q1) empty (.p (.bool r)) empty) (r0 : Bool) (h : m_slices_ContainsFunc_api_Row a0 a1 = some r0) (d : Nat) (G : Heap) : Tel Try.prog TB d 22 [.p (.sl (a0.map cTRow)), .fn n1 q1] G (.p (.bool r0)) (G) := by
  unfold m_slices_ContainsFunc_api_Row at h
  refine Tel.intro mix Try.func22 rfl (Nat.le_of_ble_eq_true rfl) {frzAt := fun t => t == 7} (by kernel_rfl) (by kernel_rfl) ?_
  generalize hQ : callPost _ _ _ _ _ = Q
  obtain ⟨r1, hr1, h⟩ := bs h
  simp -implicitDefEqProofs only [go_sem, Nat.reduceEqDiff, Nat.reduceAdd, Nat.reduceLT, Nat.reduceLeDiff, Nat.reduceMul, Nat.reduceBEq, reduceIte]
  refine call_frz (r' := .p (.int .i64 r1)) (m_slices_IndexFunc_api_Row_ev a0 a1 n1 q1 hc1 hf1 r1 hr1 (d + 1) empty) (by simp -implicitDefEqProofs only [go_sem, Nat.reduceEqDiff, Nat.reduceAdd, Nat.reduceLT, Nat.reduceLeDiff, Nat.reduceMul, Nat.reduceBEq, reduceIte]) rfl (by simp -implicitDefEqProofs only [go_sem, Nat.reduceEqDiff, Nat.reduceAdd, Nat.reduceLT, Nat.reduceLeDiff, Nat.reduceMul, Nat.reduceBEq, reduceIte, hc1]) (by simp -implicitDefEqProofs only [go_sem, Nat.reduceEqDiff, Nat.reduceAdd, Nat.reduceLT, Nat.reduceLeDiff, Nat.reduceMul, Nat.reduceBEq, reduceIte]) ?_ rfl rfl
  cases h
  subst hQ
  simp -implicitDefEqProofs only [go_sem, Nat.reduceEqDiff, Nat.reduceAdd, Nat.reduceLT, Nat.reduceLeDiff, Nat.reduceMul, Nat.reduceBEq, reduceIte, Try.results22]
theorem m_slices_Clone_api_Row_cl (a0 : List TRow) (r0 : List TRow) (h : m_slices_Clone_api_Row a0 = some r0) (d : Nat) (G : Heap) : Tel Try.prog TB d 47 [.p (.sl (a0.map cTRow))] G (cloR (r0.map cTRow) 4) G := by
  unfold m_slices_Clone_api_Row at h
  obtain ⟨_, c1, h⟩ := bs h
  replace c1 := rqs c1
  cases h
  refine Tel.intro_nil mix Try.func47 rfl (by decide) {} m_slices_Clone_api_Row_A m_slices_Clone_api_Row_B (x := 2) (y := 3) (z := 4) (by decide) (by decide) (by decide) (by kernel_rfl) (by kernel_rfl) (by kernel_rfl) ?_ ?_
  · intro a n m Q w a0 h0 hs h
    have s3 : 3 < a0.tmps.size := by rw [hs]; decide
    refine wp_seq (wp_region ?_)
    show wpOps _ _ _ [0] _ _
    simp only [wpOps, Region.wanted, if_true, List.getElem?_toArray, List.getElem?_cons_zero]
    refine .inl (wp_val (rv := .slice none 0 0) (w' := w) (by simp [execOp, Act.eval]) ?_)
    show Code.wp _ _ _ _ _
    refine wp_seq (wp_seq (wp_region ?_))
    show wpOps _ _ _ [0, 1] _ _
    simp only [wpOps, Region.wanted, if_true, List.getElem?_toArray, List.getElem?_cons_zero, List.getElem?_cons_succ]
    refine .inl (wp_val (rv := .slice a n m) (w' := w) ?_ ?_)
    · have e : (a0.put (some 2) (.slice none 0 0)).tmps.getD 0 undef = .slice a n m := by simpa [Act.put, Array.getD_eq_getD_getElem?] using h0
      show Sem.run _ (pure (Next.value ((a0.put (some 2) (.slice none 0 0)).tmps.getD 0 undef))) w = _
      rw [e]; rfl
    · refine .inl (wp_val (rv := .bool a.isNone) (w' := w) ?_ ?_)
      · have e : ((a0.put (some 2) (.slice none 0 0)).put (some 3) (.slice a n m)).tmps.getD 3 undef = .slice a n m := by simp [Act.put, Array.getD_eq_getD_getElem?, s3]
        have isn := run_equal_slice_nil (P := Try.prog) w 22 29 a n m Try.underlying22
        have e' : ((a0.put (some 2) (.slice none 0 0)).put (some 3) (.slice a n m)).eval (.tmp 3) = .slice a n m := e
        simp only [execOp, e']
        simp [Act.eval, binOp, isn, eqGuard]
      · exact h
  · intro b hb
    show gwp _ _ _ _ m_slices_Clone_api_Row_A _ _
    simp only [m_slices_Clone_api_Row_A, m_slices_Clone_api_Row_B, Try.f47]
    by_cases he : a0 = []
    · subst he
      cases b
      · simp -implicitDefEqProofs only [go_sem, Nat.reduceEqDiff, Nat.reduceAdd, Nat.reduceLT, Nat.reduceLeDiff, Nat.reduceMul, Nat.reduceBEq, reduceIte]
        refine append_nil0 el22 ?_ rfl rfl
        simp -implicitDefEqProofs only [go_sem, Nat.reduceEqDiff, Nat.reduceAdd, Nat.reduceLT, Nat.reduceLeDiff, Nat.reduceMul, Nat.reduceBEq, reduceIte, Try.results47, cloR_nil]
      · simp -implicitDefEqProofs only [go_sem, Nat.reduceEqDiff, Nat.reduceAdd, Nat.reduceLT, Nat.reduceLeDiff, Nat.reduceMul, Nat.reduceBEq, reduceIte, Try.results47, cloR_nil]
    · have hne : a0.map cTRow ≠ [] := by simpa using he
      rw [cloR_ne hne]
      cases b
      · simp -implicitDefEqProofs only [go_sem, Nat.reduceEqDiff, Nat.reduceAdd, Nat.reduceLT, Nat.reduceLeDiff, Nat.reduceMul, Nat.reduceBEq, reduceIte]
        refine append_new (n := 4) (es := []) (xs := a0.map cTRow) el22 (by simp -implicitDefEqProofs only [go_sem, Nat.reduceEqDiff, Nat.reduceAdd, Nat.reduceLT, Nat.reduceLeDiff, Nat.reduceMul, Nat.reduceBEq, reduceIte]) rfl sizes_nil (by simp -implicitDefEqProofs only [go_sem, Nat.reduceEqDiff, Nat.reduceAdd, Nat.reduceLT, Nat.reduceLeDiff, Nat.reduceMul, Nat.reduceBEq, reduceIte]) (by simp; omega) hne (by simp -implicitDefEqProofs only [go_sem, Nat.reduceEqDiff, Nat.reduceAdd, Nat.reduceLT, Nat.reduceLeDiff, Nat.reduceMul, Nat.reduceBEq, reduceIte]) ?_
        simp -implicitDefEqProofs only [go_sem, Nat.reduceEqDiff, Nat.reduceAdd, Nat.reduceLT, Nat.reduceLeDiff, Nat.reduceMul, Nat.reduceBEq, reduceIte, Try.results47, List.length_nil, Nat.zero_add]
      · exact absurd (by simpa using hb rfl) he
theorem m_bound_right_ev (a0 : TRow) (r0 : Bool) (h : m_bound_right a0 = some r0) (d : Nat) (G : Heap) : Tel Try.prog TB d 24 [.agg ((cTRow a0).map .p)] G (.p (.bool r0)) (G) := by
  unfold m_bound_right at h
  refine Tel.intro mix Try.func24 rfl (Nat.le_of_ble_eq_true rfl) {frzAt := fun t => t == 1 || t == 14} (by kernel_rfl) (by kernel_rfl) ?_
  generalize hQ : callPost _ _ _ _ _ = Q
  rcases ib h with ⟨c1, h⟩ | ⟨c1, h⟩
  · rcases ib h with ⟨c2, h⟩ | ⟨c2, h⟩
    · obtain ⟨r3, hr3, h⟩ := bs h
      simp -implicitDefEqProofs only [go_sem, Nat.reduceEqDiff, Nat.reduceAdd, Nat.reduceLT, Nat.reduceLeDiff, Nat.reduceMul, Nat.reduceBEq, reduceIte, c1, c2]
      refine call_frz (r' := .p (.bool r3)) (m_term_Right_ev a0.f1 r3 hr3 (d + 1) empty) (by simp -implicitDefEqProofs only [go_sem, Nat.reduceEqDiff, Nat.reduceAdd, Nat.reduceLT, Nat.reduceLeDiff, Nat.reduceMul, Nat.reduceBEq, reduceIte, c1, c2]) rfl (by simp -implicitDefEqProofs only [go_sem, Nat.reduceEqDiff, Nat.reduceAdd, Nat.reduceLT, Nat.reduceLeDiff, Nat.reduceMul, Nat.reduceBEq, reduceIte]) (by simp -implicitDefEqProofs only [go_sem, Nat.reduceEqDiff, Nat.reduceAdd, Nat.reduceLT, Nat.reduceLeDiff, Nat.reduceMul, Nat.reduceBEq, reduceIte]) ?_ rfl rfl
      cases h
      subst hQ
      simp -implicitDefEqProofs only [go_sem, Nat.reduceEqDiff, Nat.reduceAdd, Nat.reduceLT, Nat.reduceLeDiff, Nat.reduceMul, Nat.reduceBEq, reduceIte, c1, c2, Try.results24]
    · cases h
      subst hQ
      simp -implicitDefEqProofs only [go_sem, Nat.reduceEqDiff, Nat.reduceAdd, Nat.reduceLT, Nat.reduceLeDiff, Nat.reduceMul, Nat.reduceBEq, reduceIte, c1, c2, Try.results24]
  · cases h
    subst hQ
    simp -implicitDefEqProofs only [go_sem, Nat.reduceEqDiff, Nat.reduceAdd, Nat.reduceLT, Nat.reduceLeDiff, Nat.reduceMul, Nat.reduceBEq, reduceIte, c1, Try.results24]
theorem m_bound_engine_term_ev (a0 : TBound_engine) (a1 : TTerm) (a2 : Int) (r0 : TTerm × TBound_engine) (h : m_bound_engine_term a0 a1 a2 = some r0) (d : Nat) (G : Heap) (e0 t0 : Nat) (he0 : e0 ≤ d) (hGt0 : G e0 t0 = [.box [.p (.bool a0.f0)]]) : Tel Try.prog TB d 67 [.bp (e0, t0, 0) 0, .agg ((cTTerm a1).map .p), .p (.int .i64 a2)] G (.agg ((cTTerm r0.1).map .p)) (fillKey (G) e0 t0 ([.box [.p (.bool r0.2.f0)]])) := by
  unfold m_bound_engine_term at h
  refine Tel.intro mix Try.func67 rfl (Nat.le_of_ble_eq_true rfl) {frzAt := fun t => t == 4} (by kernel_rfl) (by kernel_rfl) ?_
  have le0 : (e0 ≤ d + 1) = True := by simp; omega
  have qe0 : (e0 = d + 1) = False := by simp; omega
  have pe0 : (d + 1 = e0) = False := by simp; omega
  refine gwp_heap (H' := fillKey (cut d G) e0 t0 [.box [.p (.bool a0.f0)]]) ?_ ?_
  · rw [fill_self (B := cut d G) (a := e0) (b := t0) (by rw [cut_app, if_pos he0]; exact hGt0)]
  generalize hQ : callPost _ _ _ _ _ = Q
  rcases ib h with ⟨c1, h⟩ | ⟨c1, h⟩
  · cases h
    subst hQ
    simp -implicitDefEqProofs only [go_sem, Nat.reduceEqDiff, Nat.reduceAdd, Nat.reduceLT, Nat.reduceLeDiff, Nat.reduceMul, Nat.reduceBEq, reduceIte, he0, le0, qe0, pe0, c1, Try.results67]
  · cases h
    subst hQ
    simp -implicitDefEqProofs only [go_sem, Nat.reduceEqDiff, Nat.reduceAdd, Nat.reduceLT, Nat.reduceLeDiff, Nat.reduceMul, Nat.reduceBEq, reduceIte, he0, le0, qe0, pe0, c1, Try.results67]
theorem m_bound_engine_rat_ev (a0 : TBound_engine) (a1 : TRat) (a2 : Int) (r0 : TRat × TBound_engine) (h : m_bound_engine_rat a0 a1 a2 = some r0) (d : Nat) (G : Heap) (e0 t0 : Nat) (he0 : e0 ≤ d) (hGt0 : G e0 t0 = [.box [.p (.bool a0.f0)]]) : Tel Try.prog TB d 74 [.bp (e0, t0, 0) 0, .agg ((cTRat a1).map .p), .p (.int .i64 a2)] G (.agg ((cTRat r0.1).map .p)) (fillKey (G) e0 t0 ([.box [.p (.bool r0.2.f0)]])) := by
  unfold m_bound_engine_rat at h
  refine Tel.intro mix Try.func74 rfl (Nat.le_of_ble_eq_true rfl) {frzAt := fun t => t == 4} (by kernel_rfl) (by kernel_rfl) ?_
  have le0 : (e0 ≤ d + 1) = True := by simp; omega
  have qe0 : (e0 = d + 1) = False := by simp; omega
  have pe0 : (d + 1 = e0) = False := by simp; omega
  refine gwp_heap (H' := fillKey (cut d G) e0 t0 [.box [.p (.bool a0.f0)]]) ?_ ?_
  · rw [fill_self (B := cut d G) (a := e0) (b := t0) (by rw [cut_app, if_pos he0]; exact hGt0)]
  generalize hQ : callPost _ _ _ _ _ = Q
  rcases ib h with ⟨c1, h⟩ | ⟨c1, h⟩
  · cases h
    subst hQ
    simp -implicitDefEqProofs only [go_sem, Nat.reduceEqDiff, Nat.reduceAdd, Nat.reduceLT, Nat.reduceLeDiff, Nat.reduceMul, Nat.reduceBEq, reduceIte, he0, le0, qe0, pe0, c1, Try.results74]
  · cases h
    subst hQ
    simp -implicitDefEqProofs only [go_sem, Nat.reduceEqDiff, Nat.reduceAdd, Nat.reduceLT, Nat.reduceLeDiff, Nat.reduceMul, Nat.reduceBEq, reduceIte, he0, le0, qe0, pe0, c1, Try.results74]
end Go.E
end
section
set_option linter.all false
set_option maxRecDepth 100000
namespace Go.E
open Go Go.Proofs Go.Eng
variable {TB : Nat → Option Obj}
theorem m_bound_engine_plain_ev (a0 : TBound_engine) (a1 : TRow) (a2 : List TTerm) (a3 : List Int) (r0 : TRow × TBound_engine) (h : m_bound_engine_plain a0 a1 a2 a3 = some r0) (d : Nat) (G : Heap) (e0 t0 : Nat) (he0 : e0 ≤ d) (hGt0 : G e0 t0 = [.box [.p (.bool a0.f0)]]) : Tel Try.prog TB d 37 [.bp (e0, t0, 0) 0, .agg ((cTRow a1).map .p), .p (.sl (a2.map cTTerm)), .p (.sl (a3.map cii64))] G (.agg ((cTRow r0.1).map .p)) (fillKey (G) e0 t0 ([.box [.p (.bool r0.2.f0)]])) := by
  unfold m_bound_engine_plain at h
  refine Tel.intro mix Try.func37 rfl (Nat.le_of_ble_eq_true rfl) {openAt := fun t => t == 48 || t == 61, frzAt := fun t => t == 26 || t == 45 || t == 58, boxAt := fun t => if t = 11 then some 11 else if t = 20 then some 5 else if t = 24 then some 900024 else none, clean := fun r => if r = 2 then [10, 11, 12] else []} (by kernel_rfl) (by kernel_rfl) ?_
  have le0 : (e0 ≤ d + 1) = True := by simp; omega
  have qe0 : (e0 = d + 1) = False := by simp; omega
  have pe0 : (d + 1 = e0) = False := by simp; omega
  refine gwp_heap (H' := fillKey (cut d G) e0 t0 [.box [.p (.bool a0.f0)]]) ?_ ?_
  · rw [fill_self (B := cut d G) (a := e0) (b := t0) (by rw [cut_app, if_pos he0]; exact hGt0)]
  generalize hQ : callPost _ _ _ _ _ = Q
  simp -implicitDefEqProofs only [go_sem, Nat.reduceEqDiff, Nat.reduceAdd, Nat.reduceLT, Nat.reduceLeDiff, Nat.reduceMul, Nat.reduceBEq, reduceIte, he0, le0, qe0, pe0]
  obtain ⟨z11, hL11, h⟩ := bs h
  obtain ⟨I11, hI11⟩ : ∃ I : (Int × Bool × (List TRat) × Int × Int) → St → Prop, I = fun a s => match a with | (v12, v13, v14, v15, v16) => s.G = fillKey (fillKey (fillKey (cut d G) e0 t0 [.box [.p (.bool v13)]]) (d + 1) 5 [.box [.p (.int .i64 a1.f0), .p (.sl (v14.map cTRat)), .p (.int .i64 v15), .p (.int .i64 v16)]]) (d + 1) 8 [.box [.p (.int .i64 0), .csl [], .p (.int .i64 0), .p (.int .i64 0)]] ∧ s.F 0 = .bp (e0, t0, 0) 0 ∧ s.F 3 = .p (.sl (a3.map cii64)) ∧ s.F 5 = .bp (d + 1, 5, 0) 0 ∧ s.F 8 = .bp (d + 1, 8, 0) 0 ∧ s.F 13 = .p (.sl (a2.map cTTerm)) ∧ s.F 14 = .p (.int .i64 (a2.length : Int)) ∧ s.F 15 = .p (.int .i64 v12) ∧ True := ⟨_, rfl⟩
  obtain ⟨R11, hR11⟩ : ∃ R : (Bool × (List TRat) × Int × Int) → GE → St → Prop, R = fun x e s => match x with | (v17, v18, v19, v20) => e = .exit 0 ∧ s.G = fillKey (fillKey (fillKey (cut d G) e0 t0 [.box [.p (.bool v17)]]) (d + 1) 5 [.box [.p (.int .i64 a1.f0), .p (.sl (v18.map cTRat)), .p (.int .i64 v19), .p (.int .i64 v20)]]) (d + 1) 8 [.box [.p (.int .i64 0), .csl [], .p (.int .i64 0), .p (.int .i64 0)]] ∧ s.F 5 = .bp (d + 1, 5, 0) 0 ∧ s.F 8 = .bp (d + 1, 8, 0) 0 ∧ True := ⟨_, rfl⟩
  refine lp (ts := [10, 11, 12]) rfl hL11 I11 R11 ?_ ?_ ?_
  · rw [hI11]
    simp -implicitDefEqProofs only [go_sem, Nat.reduceEqDiff, Nat.reduceAdd, Nat.reduceLT, Nat.reduceLeDiff, Nat.reduceMul, Nat.reduceBEq, reduceIte, he0, le0, qe0, pe0]
  · clear h hL11
    rintro ⟨v12, v13, v14, v15, v16⟩ y s h i
    rw [hI11] at i
    obtain ⟨gi11, i11⟩ := i
    replace h : m_bound_engine_plain_L0 a2 a3 (v12, v13, v14, v15, v16) = some y := h
    unfold m_bound_engine_plain_L0 at h
    rcases ib h with ⟨c21, h⟩ | ⟨c21, h⟩
    · obtain ⟨v22, hv22, h⟩ := bs h
      replace hv22 := gis hv22
      obtain ⟨v23, hv23, h⟩ := bs h
      replace hv23 := gis hv23
      obtain ⟨r24, hr24, h⟩ := bs h
      simp -implicitDefEqProofs only [go_sem, Nat.reduceEqDiff, Nat.reduceAdd, Nat.reduceLT, Nat.reduceLeDiff, Nat.reduceMul, Nat.reduceBEq, reduceIte, he0, le0, qe0, pe0, gi11, i11, c21, hv22, hv23]
      refine call_frz (r' := .agg [.p (.int .i64 r24.f0), .p (.int .i64 r24.f1)]) (m_term_At_ev (⟨v14, (⟨v15, v16⟩ : TRat)⟩ : TTerm) v23 r24 hr24 (d + 1) empty) (by simp -implicitDefEqProofs only [go_sem, Nat.reduceEqDiff, Nat.reduceAdd, Nat.reduceLT, Nat.reduceLeDiff, Nat.reduceMul, Nat.reduceBEq, reduceIte, he0, le0, qe0, pe0, gi11, i11, c21, hv22, hv23]) rfl (by simp -implicitDefEqProofs only [go_sem, Nat.reduceEqDiff, Nat.reduceAdd, Nat.reduceLT, Nat.reduceLeDiff, Nat.reduceMul, Nat.reduceBEq, reduceIte]) (by simp -implicitDefEqProofs only [go_sem, Nat.reduceEqDiff, Nat.reduceAdd, Nat.reduceLT, Nat.reduceLeDiff, Nat.reduceMul, Nat.reduceBEq, reduceIte]) ?_ rfl rfl
      simp -implicitDefEqProofs only [go_sem, Nat.reduceEqDiff, Nat.reduceAdd, Nat.reduceLT, Nat.reduceLeDiff, Nat.reduceMul, Nat.reduceBEq, reduceIte, he0, le0, qe0, pe0, gi11, i11, c21, hv22, hv23]
      obtain ⟨v25, hz, h⟩ := bs h
      obtain ⟨R26, hR26⟩ : ∃ R : St → Prop, R = fun s => s.G = fillKey (fillKey (fillKey (fillKey (fillKey (cut d G) e0 t0 [.box [.p (.bool v13)]]) (d + 1) 5 [.box [.p (.int .i64 a1.f0), .p (.sl (v14.map cTRat)), .p (.int .i64 v15), .p (.int .i64 v16)]]) (d + 1) 8 [.box [.p (.int .i64 0), .csl [], .p (.int .i64 0), .p (.int .i64 0)]]) (d + 1) 10 [.box [.p (.sl (v22.f0.map cTRat)), .p (.int .i64 v22.f1.f0), .p (.int .i64 v22.f1.f1)]]) (d + 1) 11 [.box [.p (.int .i64 r24.f0), .p (.int .i64 r24.f1)]] ∧ s.F 0 = .bp (e0, t0, 0) 0 ∧ s.F 3 = .p (.sl (a3.map cii64)) ∧ s.F 5 = .bp (d + 1, 5, 0) 0 ∧ s.F 8 = .bp (d + 1, 8, 0) 0 ∧ s.F 10 = .bp (d + 1, 10, 0) 0 ∧ s.F 11 = .bp (d + 1, 11, 0) 0 ∧ s.F 13 = .p (.sl (a2.map cTTerm)) ∧ s.F 14 = .p (.int .i64 (a2.length : Int)) ∧ s.F 15 = .p (.int .i64 v12) ∧ s.F 36 = .p (.bool v25) ∧ True := ⟨_, rfl⟩
      refine cutR R26 ?_ ?_
      · replace h := hz
        rcases ib h with ⟨c27, h⟩ | ⟨c27, h⟩
        · cases h
          simp -implicitDefEqProofs only [go_sem, Nat.reduceEqDiff, Nat.reduceAdd, Nat.reduceLT, Nat.reduceLeDiff, Nat.reduceMul, Nat.reduceBEq, reduceIte, he0, le0, qe0, pe0, gi11, i11, c21, hv22, hv23, c27]
          rw [hR26]
          simp -implicitDefEqProofs only [go_sem, Nat.reduceEqDiff, Nat.reduceAdd, Nat.reduceLT, Nat.reduceLeDiff, Nat.reduceMul, Nat.reduceBEq, reduceIte, he0, le0, qe0, pe0, gi11, i11, c21, hv22, hv23, c27]
        · cases h
          simp -implicitDefEqProofs only [go_sem, Nat.reduceEqDiff, Nat.reduceAdd, Nat.reduceLT, Nat.reduceLeDiff, Nat.reduceMul, Nat.reduceBEq, reduceIte, he0, le0, qe0, pe0, gi11, i11, c21, hv22, hv23, c27]
          rw [hR26]
          simp -implicitDefEqProofs only [go_sem, Nat.reduceEqDiff, Nat.reduceAdd, Nat.reduceLT, Nat.reduceLeDiff, Nat.reduceMul, Nat.reduceBEq, reduceIte, he0, le0, qe0, pe0, gi11, i11, c21, hv22, hv23, c27]
      · replace h := h; clear hz
        rintro s i
        rw [hR26] at i
        obtain ⟨gi28, i28⟩ := i
        clear hR26
        try dsimp only at h
        simp -implicitDefEqProofs only [go_sem, Nat.reduceEqDiff, Nat.reduceAdd, Nat.reduceLT, Nat.reduceLeDiff, Nat.reduceMul, Nat.reduceBEq, reduceIte, he0, le0, qe0, pe0, gi11, i11, c21, hv22, hv23, gi28, i28]
        obtain ⟨⟨v29, v30, v31, v32⟩, hz, h⟩ := bs h
        obtain ⟨R34, hR34⟩ : ∃ R : St → Prop, R = fun s => ∃ j33, s.G = fillKey (fillKey (fillKey (fillKey (fillKey (fillKey (cut d G) e0 t0 [.box [.p (.bool v29)]]) (d + 1) 5 [.box [.p (.int .i64 a1.f0), .p (.sl (v30.map cTRat)), .p (.int .i64 v31), .p (.int .i64 v32)]]) (d + 1) 8 [.box [.p (.int .i64 0), .csl [], .p (.int .i64 0), .p (.int .i64 0)]]) (d + 1) 10 [.box [.p (.sl (v22.f0.map cTRat)), .p (.int .i64 v22.f1.f0), .p (.int .i64 v22.f1.f1)]]) (d + 1) 11 [.box [.p (.int .i64 r24.f0), .p (.int .i64 r24.f1)]]) (d + 1) 12 j33 ∧ s.F 0 = .bp (e0, t0, 0) 0 ∧ s.F 3 = .p (.sl (a3.map cii64)) ∧ s.F 5 = .bp (d + 1, 5, 0) 0 ∧ s.F 8 = .bp (d + 1, 8, 0) 0 ∧ s.F 13 = .p (.sl (a2.map cTTerm)) ∧ s.F 14 = .p (.int .i64 (a2.length : Int)) ∧ s.F 15 = .p (.int .i64 v12) ∧ True := ⟨_, rfl⟩
        refine cutG R34 ?_ ?_
        · replace h := hz
          rcases ib h with ⟨c35, h⟩ | ⟨c35, h⟩
          · obtain ⟨r36, hr36, h⟩ := bs h
            simp -implicitDefEqProofs only [go_sem, Nat.reduceEqDiff, Nat.reduceAdd, Nat.reduceLT, Nat.reduceLeDiff, Nat.reduceMul, Nat.reduceBEq, reduceIte, he0, le0, qe0, pe0, gi11, i11, c21, hv22, hv23, gi28, i28, c35]
            refine call_frz (r' := .tup [.agg [.p (.sl (r36.1.f0.map cTRat)), .p (.int .i64 r36.1.f1.f0), .p (.int .i64 r36.1.f1.f1)], .p (.int .i64 r36.2)]) (m_term_Scale_ev v22 (⟨IntKind.wrap .i64 (0 - r24.f0), r24.f1⟩ : TRat) r36 hr36 (d + 1) empty) (by simp -implicitDefEqProofs only [go_sem, Nat.reduceEqDiff, Nat.reduceAdd, Nat.reduceLT, Nat.reduceLeDiff, Nat.reduceMul, Nat.reduceBEq, reduceIte, he0, le0, qe0, pe0, gi11, i11, c21, hv22, hv23, gi28, i28, c35]) rfl (by simp -implicitDefEqProofs only [go_sem, Nat.reduceEqDiff, Nat.reduceAdd, Nat.reduceLT, Nat.reduceLeDiff, Nat.reduceMul, Nat.reduceBEq, reduceIte]) (by simp -implicitDefEqProofs only [go_sem, Nat.reduceEqDiff, Nat.reduceAdd, Nat.reduceLT, Nat.reduceLeDiff, Nat.reduceMul, Nat.reduceBEq, reduceIte]) ?_ rfl rfl
            obtain ⟨r37, hr37, h⟩ := bs h
            simp -implicitDefEqProofs only [go_sem, Nat.reduceEqDiff, Nat.reduceAdd, Nat.reduceLT, Nat.reduceLeDiff, Nat.reduceMul, Nat.reduceBEq, reduceIte, he0, le0, qe0, pe0, gi11, i11, c21, hv22, hv23, gi28, i28, c35]
            refine call_open0 (t0 := 999) (r := .agg [.p (.sl (r37.1.f0.map cTRat)), .p (.int .i64 r37.1.f1.f0), .p (.int .i64 r37.1.f1.f1)]) (m_bound_engine_term_ev (⟨v13⟩ : TBound_engine) r36.1 r36.2 r37 hr37 (d + 1) _ e0 t0 (Nat.le_succ_of_le he0) (by simp -implicitDefEqProofs only [go_sem, Nat.reduceEqDiff, Nat.reduceAdd, Nat.reduceLT, Nat.reduceLeDiff, Nat.reduceMul, Nat.reduceBEq, reduceIte, he0, le0, qe0, pe0, gi11, i11, c21, hv22, hv23, gi28, i28, c35]) ) (by simp -implicitDefEqProofs only [go_sem, Nat.reduceEqDiff, Nat.reduceAdd, Nat.reduceLT, Nat.reduceLeDiff, Nat.reduceMul, Nat.reduceBEq, reduceIte, he0, le0, qe0, pe0, gi11, i11, c21, hv22, hv23, gi28, i28, c35]) rfl (by simp -implicitDefEqProofs only [go_sem, Nat.reduceEqDiff, Nat.reduceAdd, Nat.reduceLT, Nat.reduceLeDiff, Nat.reduceMul, Nat.reduceBEq, reduceIte, he0, le0, qe0, pe0, gi11, i11, c21, hv22, hv23, gi28, i28, c35]) (by simp -implicitDefEqProofs only [go_sem, Nat.reduceEqDiff, Nat.reduceAdd, Nat.reduceLT, Nat.reduceLeDiff, Nat.reduceMul, Nat.reduceBEq, reduceIte, he0, le0, qe0, pe0, gi11, i11, c21, hv22, hv23, gi28, i28, c35]) (by simp -implicitDefEqProofs only [go_sem, Nat.reduceEqDiff, Nat.reduceAdd, Nat.reduceLT, Nat.reduceLeDiff, Nat.reduceMul, Nat.reduceBEq, reduceIte]) ?_
            simp -implicitDefEqProofs only [go_sem, Nat.reduceEqDiff, Nat.reduceAdd, Nat.reduceLT, Nat.reduceLeDiff, Nat.reduceMul, Nat.reduceBEq, reduceIte, he0, le0, qe0, pe0, gi11, i11, c21, hv22, hv23, gi28, i28, c35]
            obtain ⟨⟨v38, v39, v40, v41⟩, hz, h⟩ := bs h
            obtain ⟨R42, hR42⟩ : ∃ R : St → Prop, R = fun s => s.G = fillKey (fillKey (fillKey (fillKey (fillKey (fillKey (cut d G) e0 t0 [.box [.p (.bool v38)]]) (d + 1) 5 [.box [.p (.int .i64 a1.f0), .p (.sl (v39.map cTRat)), .p (.int .i64 v40), .p (.int .i64 v41)]]) (d + 1) 8 [.box [.p (.int .i64 0), .csl [], .p (.int .i64 0), .p (.int .i64 0)]]) (d + 1) 10 [.box [.p (.sl (v22.f0.map cTRat)), .p (.int .i64 v22.f1.f0), .p (.int .i64 v22.f1.f1)]]) (d + 1) 11 [.box [.p (.int .i64 r24.f0), .p (.int .i64 r24.f1)]]) (d + 1) 12 [.box [.p (.sl (r37.1.f0.map cTRat)), .p (.int .i64 r37.1.f1.f0), .p (.int .i64 r37.1.f1.f1)]] ∧ s.F 0 = .bp (e0, t0, 0) 0 ∧ s.F 3 = .p (.sl (a3.map cii64)) ∧ s.F 5 = .bp (d + 1, 5, 0) 0 ∧ s.F 8 = .bp (d + 1, 8, 0) 0 ∧ s.F 13 = .p (.sl (a2.map cTTerm)) ∧ s.F 14 = .p (.int .i64 (a2.length : Int)) ∧ s.F 15 = .p (.int .i64 v12) ∧ True := ⟨_, rfl⟩
            refine cutG R42 ?_ ?_
            · replace h := hz
              rcases ib h with ⟨c43, h⟩ | ⟨c43, h⟩
              · obtain ⟨r44, hr44, h⟩ := bs h
                simp -implicitDefEqProofs only [go_sem, Nat.reduceEqDiff, Nat.reduceAdd, Nat.reduceLT, Nat.reduceLeDiff, Nat.reduceMul, Nat.reduceBEq, reduceIte, he0, le0, qe0, pe0, gi11, i11, c21, hv22, hv23, gi28, i28, c35, c43]
                refine call_frz (r' := .tup [.agg [.p (.sl (r44.1.f0.map cTRat)), .p (.int .i64 r44.1.f1.f0), .p (.int .i64 r44.1.f1.f1)], .p (.int .i64 r44.2)]) (m_term_Add_ev (⟨v14, (⟨v15, v16⟩ : TRat)⟩ : TTerm) r37.1 r44 hr44 (d + 1) empty) (by simp -implicitDefEqProofs only [go_sem, Nat.reduceEqDiff, Nat.reduceAdd, Nat.reduceLT, Nat.reduceLeDiff, Nat.reduceMul, Nat.reduceBEq, reduceIte, he0, le0, qe0, pe0, gi11, i11, c21, hv22, hv23, gi28, i28, c35, c43]) rfl (by simp -implicitDefEqProofs only [go_sem, Nat.reduceEqDiff, Nat.reduceAdd, Nat.reduceLT, Nat.reduceLeDiff, Nat.reduceMul, Nat.reduceBEq, reduceIte]) (by simp -implicitDefEqProofs only [go_sem, Nat.reduceEqDiff, Nat.reduceAdd, Nat.reduceLT, Nat.reduceLeDiff, Nat.reduceMul, Nat.reduceBEq, reduceIte]) ?_ rfl rfl
                obtain ⟨r45, hr45, h⟩ := bs h
                simp -implicitDefEqProofs only [go_sem, Nat.reduceEqDiff, Nat.reduceAdd, Nat.reduceLT, Nat.reduceLeDiff, Nat.reduceMul, Nat.reduceBEq, reduceIte, he0, le0, qe0, pe0, gi11, i11, c21, hv22, hv23, gi28, i28, c35, c43]
                refine call_open0 (t0 := 999) (r := .agg [.p (.sl (r45.1.f0.map cTRat)), .p (.int .i64 r45.1.f1.f0), .p (.int .i64 r45.1.f1.f1)]) (m_bound_engine_term_ev r37.2 r44.1 r44.2 r45 hr45 (d + 1) _ e0 t0 (Nat.le_succ_of_le he0) (by simp -implicitDefEqProofs only [go_sem, Nat.reduceEqDiff, Nat.reduceAdd, Nat.reduceLT, Nat.reduceLeDiff, Nat.reduceMul, Nat.reduceBEq, reduceIte, he0, le0, qe0, pe0, gi11, i11, c21, hv22, hv23, gi28, i28, c35, c43]) ) (by simp -implicitDefEqProofs only [go_sem, Nat.reduceEqDiff, Nat.reduceAdd, Nat.reduceLT, Nat.reduceLeDiff, Nat.reduceMul, Nat.reduceBEq, reduceIte, he0, le0, qe0, pe0, gi11, i11, c21, hv22, hv23, gi28, i28, c35, c43]) rfl (by simp -implicitDefEqProofs only [go_sem, Nat.reduceEqDiff, Nat.reduceAdd, Nat.reduceLT, Nat.reduceLeDiff, Nat.reduceMul, Nat.reduceBEq, reduceIte, he0, le0, qe0, pe0, gi11, i11, c21, hv22, hv23, gi28, i28, c35, c43]) (by simp -implicitDefEqProofs only [go_sem, Nat.reduceEqDiff, Nat.reduceAdd, Nat.reduceLT, Nat.reduceLeDiff, Nat.reduceMul, Nat.reduceBEq, reduceIte, he0, le0, qe0, pe0, gi11, i11, c21, hv22, hv23, gi28, i28, c35, c43]) (by simp -implicitDefEqProofs only [go_sem, Nat.reduceEqDiff, Nat.reduceAdd, Nat.reduceLT, Nat.reduceLeDiff, Nat.reduceMul, Nat.reduceBEq, reduceIte]) ?_
                cases h
                simp -implicitDefEqProofs only [go_sem, Nat.reduceEqDiff, Nat.reduceAdd, Nat.reduceLT, Nat.reduceLeDiff, Nat.reduceMul, Nat.reduceBEq, reduceIte, he0, le0, qe0, pe0, gi11, i11, c21, hv22, hv23, gi28, i28, c35, c43]
                rw [hR42]
                simp -implicitDefEqProofs only [go_sem, Nat.reduceEqDiff, Nat.reduceAdd, Nat.reduceLT, Nat.reduceLeDiff, Nat.reduceMul, Nat.reduceBEq, reduceIte, he0, le0, qe0, pe0, gi11, i11, c21, hv22, hv23, gi28, i28, c35, c43]
              · cases h
                simp -implicitDefEqProofs only [go_sem, Nat.reduceEqDiff, Nat.reduceAdd, Nat.reduceLT, Nat.reduceLeDiff, Nat.reduceMul, Nat.reduceBEq, reduceIte, he0, le0, qe0, pe0, gi11, i11, c21, hv22, hv23, gi28, i28, c35, c43]
                rw [hR42]
                simp -implicitDefEqProofs only [go_sem, Nat.reduceEqDiff, Nat.reduceAdd, Nat.reduceLT, Nat.reduceLeDiff, Nat.reduceMul, Nat.reduceBEq, reduceIte, he0, le0, qe0, pe0, gi11, i11, c21, hv22, hv23, gi28, i28, c35, c43]
            · replace h := h; clear hz
              rintro s i
              rw [hR42] at i
              obtain ⟨gi46, i46⟩ := i
              clear hR42
              try dsimp only at h
              cases h
              simp -implicitDefEqProofs only [go_sem, Nat.reduceEqDiff, Nat.reduceAdd, Nat.reduceLT, Nat.reduceLeDiff, Nat.reduceMul, Nat.reduceBEq, reduceIte, he0, le0, qe0, pe0, gi11, i11, c21, hv22, hv23, gi28, i28, c35, gi46, i46]
              rw [hR34]
              refine ⟨[.box [.p (.sl (r37.1.f0.map cTRat)), .p (.int .i64 r37.1.f1.f0), .p (.int .i64 r37.1.f1.f1)]], ?_⟩
              simp -implicitDefEqProofs only [go_sem, Nat.reduceEqDiff, Nat.reduceAdd, Nat.reduceLT, Nat.reduceLeDiff, Nat.reduceMul, Nat.reduceBEq, reduceIte, he0, le0, qe0, pe0, gi11, i11, c21, hv22, hv23, gi28, i28, c35, gi46, i46]
          · cases h
            simp -implicitDefEqProofs only [go_sem, Nat.reduceEqDiff, Nat.reduceAdd, Nat.reduceLT, Nat.reduceLeDiff, Nat.reduceMul, Nat.reduceBEq, reduceIte, he0, le0, qe0, pe0, gi11, i11, c21, hv22, hv23, gi28, i28, c35]
            rw [hR34]
            refine ⟨[], ?_⟩
            simp -implicitDefEqProofs only [go_sem, Nat.reduceEqDiff, Nat.reduceAdd, Nat.reduceLT, Nat.reduceLeDiff, Nat.reduceMul, Nat.reduceBEq, reduceIte, he0, le0, qe0, pe0, gi11, i11, c21, hv22, hv23, gi28, i28, c35]
        · replace h := h; clear hz
          rintro s i
          rw [hR34] at i
          obtain ⟨j33, gi47, i47⟩ := i
          clear hR34
          try dsimp only at h
          cases h
          simp -implicitDefEqProofs only [go_sem, Nat.reduceEqDiff, Nat.reduceAdd, Nat.reduceLT, Nat.reduceLeDiff, Nat.reduceMul, Nat.reduceBEq, reduceIte, he0, le0, qe0, pe0, gi11, i11, c21, hv22, hv23, gi28, i28, gi47, i47]
          rw [hI11]
          simp -implicitDefEqProofs only [go_sem, Nat.reduceEqDiff, Nat.reduceAdd, Nat.reduceLT, Nat.reduceLeDiff, Nat.reduceMul, Nat.reduceBEq, reduceIte, he0, le0, qe0, pe0, gi11, i11, c21, hv22, hv23, gi28, i28, gi47, i47]
    · cases h
      simp -implicitDefEqProofs only [go_sem, Nat.reduceEqDiff, Nat.reduceAdd, Nat.reduceLT, Nat.reduceLeDiff, Nat.reduceMul, Nat.reduceBEq, reduceIte, he0, le0, qe0, pe0, gi11, i11, c21]
      rw [hR11]
      first | refine ⟨rfl, ?_⟩ | refine ⟨(), rfl, ?_⟩
      simp -implicitDefEqProofs only [go_sem, Nat.reduceEqDiff, Nat.reduceAdd, Nat.reduceLT, Nat.reduceLeDiff, Nat.reduceMul, Nat.reduceBEq, reduceIte, he0, le0, qe0, pe0, gi11, i11, c21]
  · clear hL11 hI11
    intro e s hr11
    rw [hR11] at hr11
    clear hR11
    rcases z11 with ⟨v17, v18, v19, v20⟩
    try dsimp only at h hr11
    obtain ⟨rfl, gi48, i48⟩ := hr11
    cases h
    subst hQ
    simp -implicitDefEqProofs only [go_sem, Nat.reduceEqDiff, Nat.reduceAdd, Nat.reduceLT, Nat.reduceLeDiff, Nat.reduceMul, Nat.reduceBEq, reduceIte, he0, le0, qe0, pe0, gi48, i48, Try.results37]
theorem m_bound_engine_divide_ev (a0 : TBound_engine) (a1 : TRow) (a2 : TRat) (r0 : TRow × TBound_engine) (h : m_bound_engine_divide a0 a1 a2 = some r0) (d : Nat) (G : Heap) (e0 t0 : Nat) (he0 : e0 ≤ d) (hGt0 : G e0 t0 = [.box [.p (.bool a0.f0)]]) : Tel Try.prog TB d 70 [.bp (e0, t0, 0) 0, .agg ((cTRow a1).map .p), .agg ((cTRat a2).map .p)] G (.agg ((cTRow r0.1).map .p)) (fillKey (G) e0 t0 ([.box [.p (.bool r0.2.f0)]])) := by
  unfold m_bound_engine_divide at h
  refine Tel.intro mix Try.func70 rfl (Nat.le_of_ble_eq_true rfl) {openAt := fun t => t == 21 || t == 34, frzAt := fun t => t == 18 || t == 31} (by kernel_rfl) (by kernel_rfl) ?_
  have le0 : (e0 ≤ d + 1) = True := by simp; omega
  have qe0 : (e0 = d + 1) = False := by simp; omega
  have pe0 : (d + 1 = e0) = False := by simp; omega
  refine gwp_heap (H' := fillKey (cut d G) e0 t0 [.box [.p (.bool a0.f0)]]) ?_ ?_
  · rw [fill_self (B := cut d G) (a := e0) (b := t0) (by rw [cut_app, if_pos he0]; exact hGt0)]
  generalize hQ : callPost _ _ _ _ _ = Q
  simp -implicitDefEqProofs only [go_sem, Nat.reduceEqDiff, Nat.reduceAdd, Nat.reduceLT, Nat.reduceLeDiff, Nat.reduceMul, Nat.reduceBEq, reduceIte, he0, le0, qe0, pe0]
  obtain ⟨v1, hz, h⟩ := bs h
  obtain ⟨R2, hR2⟩ : ∃ R : St → Prop, R = fun s => s.G = fillKey (fillKey (fillKey (fillKey (cut d G) e0 t0 [.box [.p (.bool a0.f0)]]) (d + 1) 4 [.box [.p (.int .i64 a1.f0), .p (.sl (a1.f1.f0.map cTRat)), .p (.int .i64 a1.f1.f1.f0), .p (.int .i64 a1.f1.f1.f1)]]) (d + 1) 5 [.box [.p (.int .i64 v1), .p (.int .i64 a2.f1)]]) (d + 1) 6 [.box [.p (.int .i64 0), .csl [], .p (.int .i64 0), .p (.int .i64 0)]] ∧ s.F 0 = .bp (e0, t0, 0) 0 ∧ s.F 4 = .bp (d + 1, 4, 0) 0 ∧ s.F 5 = .bp (d + 1, 5, 0) 0 ∧ s.F 6 = .bp (d + 1, 6, 0) 0 ∧ True := ⟨_, rfl⟩
  refine cutG R2 ?_ ?_
  · replace h := hz
    rcases ib h with ⟨c3, h⟩ | ⟨c3, h⟩
    · cases h
      simp -implicitDefEqProofs only [go_sem, Nat.reduceEqDiff, Nat.reduceAdd, Nat.reduceLT, Nat.reduceLeDiff, Nat.reduceMul, Nat.reduceBEq, reduceIte, he0, le0, qe0, pe0, c3]
      rw [hR2]
      simp -implicitDefEqProofs only [go_sem, Nat.reduceEqDiff, Nat.reduceAdd, Nat.reduceLT, Nat.reduceLeDiff, Nat.reduceMul, Nat.reduceBEq, reduceIte, he0, le0, qe0, pe0, c3]
    · cases h
      simp -implicitDefEqProofs only [go_sem, Nat.reduceEqDiff, Nat.reduceAdd, Nat.reduceLT, Nat.reduceLeDiff, Nat.reduceMul, Nat.reduceBEq, reduceIte, he0, le0, qe0, pe0, c3]
      rw [hR2]
      simp -implicitDefEqProofs only [go_sem, Nat.reduceEqDiff, Nat.reduceAdd, Nat.reduceLT, Nat.reduceLeDiff, Nat.reduceMul, Nat.reduceBEq, reduceIte, he0, le0, qe0, pe0, c3]
  · replace h := h; clear hz
    rintro s i
    rw [hR2] at i
    obtain ⟨gi4, i4⟩ := i
    clear hR2
    try dsimp only at h
    obtain ⟨r5, hr5, h⟩ := bs h
    simp -implicitDefEqProofs only [go_sem, Nat.reduceEqDiff, Nat.reduceAdd, Nat.reduceLT, Nat.reduceLeDiff, Nat.reduceMul, Nat.reduceBEq, reduceIte, he0, le0, qe0, pe0, gi4, i4]
    refine call_frz (r' := .tup [.agg [.p (.int .i64 r5.1.f0), .p (.int .i64 r5.1.f1)], .p (.int .i64 r5.2)]) (m_rat_Div_ev (⟨1, 1⟩ : TRat) (⟨v1, a2.f1⟩ : TRat) r5 hr5 (d + 1) empty) (by simp -implicitDefEqProofs only [go_sem, Nat.reduceEqDiff, Nat.reduceAdd, Nat.reduceLT, Nat.reduceLeDiff, Nat.reduceMul, Nat.reduceBEq, reduceIte, he0, le0, qe0, pe0, gi4, i4]) rfl (by simp -implicitDefEqProofs only [go_sem, Nat.reduceEqDiff, Nat.reduceAdd, Nat.reduceLT, Nat.reduceLeDiff, Nat.reduceMul, Nat.reduceBEq, reduceIte]) (by simp -implicitDefEqProofs only [go_sem, Nat.reduceEqDiff, Nat.reduceAdd, Nat.reduceLT, Nat.reduceLeDiff, Nat.reduceMul, Nat.reduceBEq, reduceIte]) ?_ rfl rfl
    obtain ⟨r6, hr6, h⟩ := bs h
    simp -implicitDefEqProofs only [go_sem, Nat.reduceEqDiff, Nat.reduceAdd, Nat.reduceLT, Nat.reduceLeDiff, Nat.reduceMul, Nat.reduceBEq, reduceIte, he0, le0, qe0, pe0, gi4, i4]
    refine call_open0 (t0 := 999) (r := .agg [.p (.int .i64 r6.1.f0), .p (.int .i64 r6.1.f1)]) (m_bound_engine_rat_ev a0 r5.1 r5.2 r6 hr6 (d + 1) _ e0 t0 (Nat.le_succ_of_le he0) (by simp -implicitDefEqProofs only [go_sem, Nat.reduceEqDiff, Nat.reduceAdd, Nat.reduceLT, Nat.reduceLeDiff, Nat.reduceMul, Nat.reduceBEq, reduceIte, he0, le0, qe0, pe0, gi4, i4]) ) (by simp -implicitDefEqProofs only [go_sem, Nat.reduceEqDiff, Nat.reduceAdd, Nat.reduceLT, Nat.reduceLeDiff, Nat.reduceMul, Nat.reduceBEq, reduceIte, he0, le0, qe0, pe0, gi4, i4]) rfl (by simp -implicitDefEqProofs only [go_sem, Nat.reduceEqDiff, Nat.reduceAdd, Nat.reduceLT, Nat.reduceLeDiff, Nat.reduceMul, Nat.reduceBEq, reduceIte, he0, le0, qe0, pe0, gi4, i4]) (by simp -implicitDefEqProofs only [go_sem, Nat.reduceEqDiff, Nat.reduceAdd, Nat.reduceLT, Nat.reduceLeDiff, Nat.reduceMul, Nat.reduceBEq, reduceIte, he0, le0, qe0, pe0, gi4, i4]) (by simp -implicitDefEqProofs only [go_sem, Nat.reduceEqDiff, Nat.reduceAdd, Nat.reduceLT, Nat.reduceLeDiff, Nat.reduceMul, Nat.reduceBEq, reduceIte]) ?_
    rcases ib h with ⟨c7, h⟩ | ⟨c7, h⟩
    · obtain ⟨r8, hr8, h⟩ := bs h
      simp -implicitDefEqProofs only [go_sem, Nat.reduceEqDiff, Nat.reduceAdd, Nat.reduceLT, Nat.reduceLeDiff, Nat.reduceMul, Nat.reduceBEq, reduceIte, he0, le0, qe0, pe0, gi4, i4, c7]
      refine call_frz (r' := .tup [.agg [.p (.sl (r8.1.f0.map cTRat)), .p (.int .i64 r8.1.f1.f0), .p (.int .i64 r8.1.f1.f1)], .p (.int .i64 r8.2)]) (m_term_Scale_ev a1.f1 r6.1 r8 hr8 (d + 1) empty) (by simp -implicitDefEqProofs only [go_sem, Nat.reduceEqDiff, Nat.reduceAdd, Nat.reduceLT, Nat.reduceLeDiff, Nat.reduceMul, Nat.reduceBEq, reduceIte, he0, le0, qe0, pe0, gi4, i4, c7]) rfl (by simp -implicitDefEqProofs only [go_sem, Nat.reduceEqDiff, Nat.reduceAdd, Nat.reduceLT, Nat.reduceLeDiff, Nat.reduceMul, Nat.reduceBEq, reduceIte]) (by simp -implicitDefEqProofs only [go_sem, Nat.reduceEqDiff, Nat.reduceAdd, Nat.reduceLT, Nat.reduceLeDiff, Nat.reduceMul, Nat.reduceBEq, reduceIte]) ?_ rfl rfl
      obtain ⟨r9, hr9, h⟩ := bs h
      simp -implicitDefEqProofs only [go_sem, Nat.reduceEqDiff, Nat.reduceAdd, Nat.reduceLT, Nat.reduceLeDiff, Nat.reduceMul, Nat.reduceBEq, reduceIte, he0, le0, qe0, pe0, gi4, i4, c7]
      refine call_open0 (t0 := 999) (r := .agg [.p (.sl (r9.1.f0.map cTRat)), .p (.int .i64 r9.1.f1.f0), .p (.int .i64 r9.1.f1.f1)]) (m_bound_engine_term_ev r6.2 r8.1 r8.2 r9 hr9 (d + 1) _ e0 t0 (Nat.le_succ_of_le he0) (by simp -implicitDefEqProofs only [go_sem, Nat.reduceEqDiff, Nat.reduceAdd, Nat.reduceLT, Nat.reduceLeDiff, Nat.reduceMul, Nat.reduceBEq, reduceIte, he0, le0, qe0, pe0, gi4, i4, c7]) ) (by simp -implicitDefEqProofs only [go_sem, Nat.reduceEqDiff, Nat.reduceAdd, Nat.reduceLT, Nat.reduceLeDiff, Nat.reduceMul, Nat.reduceBEq, reduceIte, he0, le0, qe0, pe0, gi4, i4, c7]) rfl (by simp -implicitDefEqProofs only [go_sem, Nat.reduceEqDiff, Nat.reduceAdd, Nat.reduceLT, Nat.reduceLeDiff, Nat.reduceMul, Nat.reduceBEq, reduceIte, he0, le0, qe0, pe0, gi4, i4, c7]) (by simp -implicitDefEqProofs only [go_sem, Nat.reduceEqDiff, Nat.reduceAdd, Nat.reduceLT, Nat.reduceLeDiff, Nat.reduceMul, Nat.reduceBEq, reduceIte, he0, le0, qe0, pe0, gi4, i4, c7]) (by simp -implicitDefEqProofs only [go_sem, Nat.reduceEqDiff, Nat.reduceAdd, Nat.reduceLT, Nat.reduceLeDiff, Nat.reduceMul, Nat.reduceBEq, reduceIte]) ?_
      cases h
      subst hQ
      simp -implicitDefEqProofs only [go_sem, Nat.reduceEqDiff, Nat.reduceAdd, Nat.reduceLT, Nat.reduceLeDiff, Nat.reduceMul, Nat.reduceBEq, reduceIte, he0, le0, qe0, pe0, gi4, i4, c7, Try.results70]
    · cases h
      subst hQ
      simp -implicitDefEqProofs only [go_sem, Nat.reduceEqDiff, Nat.reduceAdd, Nat.reduceLT, Nat.reduceLeDiff, Nat.reduceMul, Nat.reduceBEq, reduceIte, he0, le0, qe0, pe0, gi4, i4, c7, Try.results70]
theorem m_bound_engine_drop_ev (a0 : TBound_engine) (a1 : List TRow) (a2 : Int) (r0 : TBound_stage × (List TRow) × TBound_engine) (h : m_bound_engine_drop a0 a1 a2 = some r0) (d : Nat) (G : Heap) (e0 t0 : Nat) (he0 : e0 ≤ d) (hGt0 : G e0 t0 = [.box [.p (.bool a0.f0)]]) : Tel Try.prog TB d 39 [.bp (e0, t0, 0) 0, .p (.sl (a1.map cTRow)), .p (.int .i64 a2)] G (.tup [.agg ((cTBound_stage r0.1).map .p), .p (.sl (r0.2.1.map cTRow))]) (fillKey (G) e0 t0 ([.box [.p (.bool r0.2.2.f0)]])) := by
  unfold m_bound_engine_drop at h
  refine Tel.intro mix Try.func39 rfl (Nat.le_of_ble_eq_true rfl) {openAt := fun t => t == 40 || t == 53 || t == 107, drwAt := fun t => t == 40 || t == 53 || t == 107, frzAt := fun t => t == 26 || t == 104, watch := fun t => if t = 40 then [35] else if t = 53 then [48] else if t = 107 then [94, 96] else [], wkey := fun t => if t = 35 then some ((d + 1, 8, 0), 0) else if t = 48 then some ((d + 1, 8, 0), 1) else if t = 94 then some ((d + 1, 14, 0), 0) else if t = 96 then some ((d + 1, 16, 0), 0) else none, boxAt := fun t => if t = 11 then some 11 else if t = 12 then some 12 else if t = 35 then some 8 else if t = 43 then some 8 else if t = 48 then some 8 else if t = 56 then some 8 else if t = 94 then some 14 else if t = 96 then some 16 else if t = 100 then some 14 else if t = 102 then some 16 else if t = 1000042 then some 42 else if t = 1000055 then some 55 else none, clean := fun r => if r = 4 then [11, 12] else if r = 17 then [14, 16] else if r = 20 then [16] else []} (by kernel_rfl) (by kernel_rfl) ?_
  have le0 : (e0 ≤ d + 1) = True := by simp; omega
  have qe0 : (e0 = d + 1) = False := by simp; omega
  have pe0 : (d + 1 = e0) = False := by simp; omega
  refine gwp_heap (H' := fillKey (cut d G) e0 t0 [.box [.p (.bool a0.f0)]]) ?_ ?_
  · rw [fill_self (B := cut d G) (a := e0) (b := t0) (by rw [cut_app, if_pos he0]; exact hGt0)]
  generalize hQ : callPost _ _ _ _ _ = Q
  simp -implicitDefEqProofs only [go_sem, Nat.reduceEqDiff, Nat.reduceAdd, Nat.reduceLT, Nat.reduceLeDiff, Nat.reduceMul, Nat.reduceBEq, reduceIte, he0, le0, qe0, pe0]
  obtain ⟨z17, hL17, h⟩ := bs h
  obtain ⟨I17, hI17⟩ : ∃ I : ((List TRow) × Int × Bool × (List TRow) × (List TRow)) → St → Prop, I = fun a s => match a with | (v18, v20, v21, v22, v24) => ∃ o19 o23 o25, s.G = fillKey (fillKey (fillKey (fillKey (fillKey (fillKey (cut d G) e0 t0 [.box [.p (.bool v21)]]) (d + 1) 6 [.box [.csl [], .csl []]]) (d + 1) 8 [.box [growV o23 (d + 1) (v22.map cTRow), growV o25 (d + 1) (v24.map cTRow)]]) (d + 1) 30 (growO o19 30 4 (v18.map cTRow))) (d + 1) 42 (growO o23 42 4 (v22.map cTRow))) (d + 1) 55 (growO o25 55 4 (v24.map cTRow)) ∧ growOK o19 [30] ∧ growOK o23 [42] ∧ growOK o25 [55] ∧ s.F 0 = .bp (e0, t0, 0) 0 ∧ s.F 2 = .p (.int .i64 a2) ∧ s.F 6 = .bp (d + 1, 6, 0) 0 ∧ s.F 8 = .bp (d + 1, 8, 0) 0 ∧ s.F 9 = growV o19 (d + 1) (v18.map cTRow) ∧ s.F 17 = .p (.sl (a1.map cTRow)) ∧ s.F 18 = .p (.int .i64 (a1.length : Int)) ∧ s.F 19 = .p (.int .i64 v20) ∧ True := ⟨_, rfl⟩
  obtain ⟨R17, hR17⟩ : ∃ R : ((List TRow) × Bool × (List TRow) × (List TRow)) → GE → St → Prop, R = fun x e s => match x with | (v26, v28, v29, v31) => e = .exit 0 ∧ (∃ o27 o30 o32, s.G = fillKey (fillKey (fillKey (fillKey (fillKey (fillKey (cut d G) e0 t0 [.box [.p (.bool v28)]]) (d + 1) 6 [.box [.csl [], .csl []]]) (d + 1) 8 [.box [growV o30 (d + 1) (v29.map cTRow), growV o32 (d + 1) (v31.map cTRow)]]) (d + 1) 30 (growO o27 30 4 (v26.map cTRow))) (d + 1) 42 (growO o30 42 4 (v29.map cTRow))) (d + 1) 55 (growO o32 55 4 (v31.map cTRow)) ∧ growOK o27 [30] ∧ growOK o30 [42] ∧ growOK o32 [55] ∧ s.F 0 = .bp (e0, t0, 0) 0 ∧ s.F 6 = .bp (d + 1, 6, 0) 0 ∧ s.F 8 = .bp (d + 1, 8, 0) 0 ∧ s.F 9 = growV o27 (d + 1) (v26.map cTRow) ∧ True) := ⟨_, rfl⟩
  refine lp (ts := [11, 12]) rfl hL17 I17 R17 ?_ ?_ ?_
  · rw [hI17]
    refine ⟨none, none, none, ?_⟩
    simp -implicitDefEqProofs only [go_sem, Nat.reduceEqDiff, Nat.reduceAdd, Nat.reduceLT, Nat.reduceLeDiff, Nat.reduceMul, Nat.reduceBEq, reduceIte, he0, le0, qe0, pe0]
  · clear h hL17
    rintro ⟨v18, v20, v21, v22, v24⟩ y s h i
    rw [hI17] at i
    obtain ⟨o19, o23, o25, gi17, ko19, ko23, ko25, i17⟩ := i
    replace h : m_bound_engine_drop_L0 a1 a2 (v18, v20, v21, v22, v24) = some y := h
    unfold m_bound_engine_drop_L0 at h
    rcases ib h with ⟨c33, h⟩ | ⟨c33, h⟩
    · obtain ⟨v34, hv34, h⟩ := bs h
      replace hv34 := gis hv34
      obtain ⟨r35, hr35, h⟩ := bs h
      simp -implicitDefEqProofs only [go_sem, Nat.reduceEqDiff, Nat.reduceAdd, Nat.reduceLT, Nat.reduceLeDiff, Nat.reduceMul, Nat.reduceBEq, reduceIte, he0, le0, qe0, pe0, gi17, ko19, ko23, ko25, i17, c33, hv34]
      refine call_frz (r' := .agg [.p (.int .i64 r35.f0), .p (.int .i64 r35.f1)]) (m_term_At_ev v34.f1 a2 r35 hr35 (d + 1) empty) (by simp -implicitDefEqProofs only [go_sem, Nat.reduceEqDiff, Nat.reduceAdd, Nat.reduceLT, Nat.reduceLeDiff, Nat.reduceMul, Nat.reduceBEq, reduceIte, he0, le0, qe0, pe0, gi17, ko19, ko23, ko25, i17, c33, hv34]) rfl (by simp -implicitDefEqProofs only [go_sem, Nat.reduceEqDiff, Nat.reduceAdd, Nat.reduceLT, Nat.reduceLeDiff, Nat.reduceMul, Nat.reduceBEq, reduceIte]) (by simp -implicitDefEqProofs only [go_sem, Nat.reduceEqDiff, Nat.reduceAdd, Nat.reduceLT, Nat.reduceLeDiff, Nat.reduceMul, Nat.reduceBEq, reduceIte]) ?_ rfl rfl
      simp -implicitDefEqProofs only [go_sem, Nat.reduceEqDiff, Nat.reduceAdd, Nat.reduceLT, Nat.reduceLeDiff, Nat.reduceMul, Nat.reduceBEq, reduceIte, he0, le0, qe0, pe0, gi17, ko19, ko23, ko25, i17, c33, hv34]
      obtain ⟨⟨v36, v38, v39, v41⟩, hz, h⟩ := bs h
      obtain ⟨R43, hR43⟩ : ∃ R : St → Prop, R = fun s => ∃ o37 o40 o42, s.G = fillKey (fillKey (fillKey (fillKey (fillKey (fillKey (fillKey (fillKey (cut d G) e0 t0 [.box [.p (.bool v38)]]) (d + 1) 6 [.box [.csl [], .csl []]]) (d + 1) 8 [.box [growV o40 (d + 1) (v39.map cTRow), growV o42 (d + 1) (v41.map cTRow)]]) (d + 1) 11 [.box [.p (.int .i64 v34.f0), .p (.sl (v34.f1.f0.map cTRat)), .p (.int .i64 v34.f1.f1.f0), .p (.int .i64 v34.f1.f1.f1)]]) (d + 1) 12 [.box [.p (.int .i64 r35.f0), .p (.int .i64 r35.f1)]]) (d + 1) 30 (growO o37 30 4 (v36.map cTRow))) (d + 1) 42 (growO o40 42 4 (v39.map cTRow))) (d + 1) 55 (growO o42 55 4 (v41.map cTRow)) ∧ growOK o37 [30] ∧ growOK o40 [42] ∧ growOK o42 [55] ∧ s.F 0 = .bp (e0, t0, 0) 0 ∧ s.F 2 = .p (.int .i64 a2) ∧ s.F 6 = .bp (d + 1, 6, 0) 0 ∧ s.F 8 = .bp (d + 1, 8, 0) 0 ∧ s.F 9 = growV o37 (d + 1) (v36.map cTRow) ∧ s.F 17 = .p (.sl (a1.map cTRow)) ∧ s.F 18 = .p (.int .i64 (a1.length : Int)) ∧ s.F 19 = .p (.int .i64 v20) ∧ True := ⟨_, rfl⟩
      refine cutG R43 ?_ ?_
      · replace h := hz
        rcases ib h with ⟨c44, h⟩ | ⟨c44, h⟩
        · obtain ⟨r45, hr45, h⟩ := bs h
          simp -implicitDefEqProofs only [go_sem, Nat.reduceEqDiff, Nat.reduceAdd, Nat.reduceLT, Nat.reduceLeDiff, Nat.reduceMul, Nat.reduceBEq, reduceIte, he0, le0, qe0, pe0, gi17, ko19, ko23, ko25, i17, c33, hv34, c44]
          refine call_drwL (t0 := 999) (r := .agg [.p (.int .i64 r45.1.f0), .p (.sl (r45.1.f1.f0.map cTRat)), .p (.int .i64 r45.1.f1.f1.f0), .p (.int .i64 r45.1.f1.f1.f1)]) [(e0, t0, [.box [.p (.bool r45.2.f0)]])] (fun H => m_bound_engine_divide_ev (⟨v21⟩ : TBound_engine) v34 r35 r45 hr45 (d + 1) _ e0 t0 (Nat.le_succ_of_le he0) (by simp -implicitDefEqProofs only [go_sem, Nat.reduceEqDiff, Nat.reduceAdd, Nat.reduceLT, Nat.reduceLeDiff, Nat.reduceMul, Nat.reduceBEq, reduceIte, he0, le0, qe0, pe0, gi17, ko19, ko23, ko25, i17, c33, hv34, c44]) ) (by simp -implicitDefEqProofs only [go_sem, Nat.reduceEqDiff, Nat.reduceAdd, Nat.reduceLT, Nat.reduceLeDiff, Nat.reduceMul, Nat.reduceBEq, reduceIte, he0, le0, qe0, pe0, gi17, ko19, ko23, ko25, i17, c33, hv34, c44]) rfl (by simp -implicitDefEqProofs only [go_sem, Nat.reduceEqDiff, Nat.reduceAdd, Nat.reduceLT, Nat.reduceLeDiff, Nat.reduceMul, Nat.reduceBEq, reduceIte, he0, le0, qe0, pe0, gi17, ko19, ko23, ko25, i17, c33, hv34, c44]) (by simp -implicitDefEqProofs only [go_sem, Nat.reduceEqDiff, Nat.reduceAdd, Nat.reduceLT, Nat.reduceLeDiff, Nat.reduceMul, Nat.reduceBEq, reduceIte, he0, le0, qe0, pe0, gi17, ko19, ko23, ko25, i17, c33, hv34, c44]) (by simp -implicitDefEqProofs only [go_sem, Nat.reduceEqDiff, Nat.reduceAdd, Nat.reduceLT, Nat.reduceLeDiff, Nat.reduceMul, Nat.reduceBEq, reduceIte]) (by simp -implicitDefEqProofs only [go_sem, Nat.reduceEqDiff, Nat.reduceAdd, Nat.reduceLT, Nat.reduceLeDiff, Nat.reduceMul, Nat.reduceBEq, reduceIte, he0, le0, qe0, pe0, gi17, ko19, ko23, ko25, i17, c33, hv34, c44]) (by simp -implicitDefEqProofs only [go_sem, Nat.reduceEqDiff, Nat.reduceAdd, Nat.reduceLT, Nat.reduceLeDiff, Nat.reduceMul, Nat.reduceBEq, reduceIte, he0, le0, qe0, pe0, gi17, ko19, ko23, ko25, i17, c33, hv34, c44]) (fun x hx => by simp only [go_sem, reduceIte, Nat.reduceEqDiff, List.mem_cons, List.not_mem_nil, or_false] at hx; rcases hx with rfl <;> first | exact ⟨(d + 1, 8, 0), 0, rfl, by simp -implicitDefEqProofs only [go_sem, Nat.reduceEqDiff, Nat.reduceAdd, Nat.reduceLT, Nat.reduceLeDiff, Nat.reduceMul, Nat.reduceBEq, reduceIte, he0, le0, qe0, pe0, gi17, ko19, ko23, ko25, i17, c33, hv34, c44], [growV o23 (d + 1) (v22.map cTRow), growV o25 (d + 1) (v24.map cTRow)], [growV o23 (d + 1) (v22.map cTRow), growV o25 (d + 1) (v24.map cTRow)], by simp -implicitDefEqProofs only [go_sem, Nat.reduceEqDiff, Nat.reduceAdd, Nat.reduceLT, Nat.reduceLeDiff, Nat.reduceMul, Nat.reduceBEq, reduceIte, he0, le0, qe0, pe0, gi17, ko19, ko23, ko25, i17, c33, hv34, c44], by simp -implicitDefEqProofs only [go_sem, Nat.reduceEqDiff, Nat.reduceAdd, Nat.reduceLT, Nat.reduceLeDiff, Nat.reduceMul, Nat.reduceBEq, reduceIte, he0, le0, qe0, pe0, gi17, ko19, ko23, ko25, i17, c33, hv34, c44], by simp -implicitDefEqProofs only [go_sem, Nat.reduceEqDiff, Nat.reduceAdd, Nat.reduceLT, Nat.reduceLeDiff, Nat.reduceMul, Nat.reduceBEq, reduceIte, he0, le0, qe0, pe0, gi17, ko19, ko23, ko25, i17, c33, hv34, c44]⟩) (by simp -implicitDefEqProofs only [go_sem, Nat.reduceEqDiff, Nat.reduceAdd, Nat.reduceLT, Nat.reduceLeDiff, Nat.reduceMul, Nat.reduceBEq, reduceIte]) ?_
          obtain ⟨_, c46, h⟩ := bs h
          replace c46 := rqs c46
          simp -implicitDefEqProofs only [go_sem, Nat.reduceEqDiff, Nat.reduceAdd, Nat.reduceLT, Nat.reduceLeDiff, Nat.reduceMul, Nat.reduceBEq, reduceIte, he0, le0, qe0, pe0, gi17, ko19, ko23, ko25, i17, c33, hv34, c44, c46, appG_grow (k := 42) ko23, appG_grow_p (k := 42) ko23]
          refine append_G (o := o23) (ts := [42]) (es := (v22 : List TRow).map cTRow) (xs := ([r45.1] : List TRow).map cTRow) (ho := growOK.sub ko23 (by decide)) (hG := by simp -implicitDefEqProofs only [go_sem, Nat.reduceEqDiff, Nat.reduceAdd, Nat.reduceLT, Nat.reduceLeDiff, Nat.reduceMul, Nat.reduceBEq, reduceIte, he0, le0, qe0, pe0, gi17, ko19, ko23, ko25, i17, c33, hv34, c44, c46]) (hj := by simp -implicitDefEqProofs only [go_sem, Nat.reduceEqDiff, Nat.reduceAdd, Nat.reduceLT, Nat.reduceLeDiff, Nat.reduceMul, Nat.reduceBEq, reduceIte]) (he := el22) (hx := by simp -implicitDefEqProofs only [go_sem, Nat.reduceEqDiff, Nat.reduceAdd, Nat.reduceLT, Nat.reduceLeDiff, Nat.reduceMul, Nat.reduceBEq, reduceIte, he0, le0, qe0, pe0, gi17, ko19, ko23, ko25, i17, c33, hv34, c44, c46]) (h1 := by simp -implicitDefEqProofs only [go_sem, Nat.reduceEqDiff, Nat.reduceAdd, Nat.reduceLT, Nat.reduceLeDiff, Nat.reduceMul, Nat.reduceBEq, reduceIte]) (h2 := by simp -implicitDefEqProofs only [go_sem, Nat.reduceEqDiff, Nat.reduceAdd, Nat.reduceLT, Nat.reduceLeDiff, Nat.reduceMul, Nat.reduceBEq, reduceIte]) (ha := rfl) (hra := rfl) (hb := by simpa using c46) (hbb := by decide) ?_
          intro o47 ko47
          cases h
          simp -implicitDefEqProofs only [go_sem, Nat.reduceEqDiff, Nat.reduceAdd, Nat.reduceLT, Nat.reduceLeDiff, Nat.reduceMul, Nat.reduceBEq, reduceIte, he0, le0, qe0, pe0, gi17, ko19, ko23, ko25, i17, c33, hv34, c44, c46, ko47]
          rw [hR43]
          refine ⟨o19, o47, o25, ?_⟩
          simp -implicitDefEqProofs only [go_sem, Nat.reduceEqDiff, Nat.reduceAdd, Nat.reduceLT, Nat.reduceLeDiff, Nat.reduceMul, Nat.reduceBEq, reduceIte, he0, le0, qe0, pe0, gi17, ko19, ko23, ko25, i17, c33, hv34, c44, c46, ko47]
        · simp -implicitDefEqProofs only [go_sem, Nat.reduceEqDiff, Nat.reduceAdd, Nat.reduceLT, Nat.reduceLeDiff, Nat.reduceMul, Nat.reduceBEq, reduceIte, he0, le0, qe0, pe0, gi17, ko19, ko23, ko25, i17, c33, hv34, c44]
          obtain ⟨⟨v48, v50, v51⟩, hz, h⟩ := bs h
          obtain ⟨R53, hR53⟩ : ∃ R : St → Prop, R = fun s => ∃ o49 o52, s.G = fillKey (fillKey (fillKey (fillKey (fillKey (fillKey (fillKey (fillKey (cut d G) e0 t0 [.box [.p (.bool v50)]]) (d + 1) 6 [.box [.csl [], .csl []]]) (d + 1) 8 [.box [growV o23 (d + 1) (v22.map cTRow), growV o52 (d + 1) (v51.map cTRow)]]) (d + 1) 11 [.box [.p (.int .i64 v34.f0), .p (.sl (v34.f1.f0.map cTRat)), .p (.int .i64 v34.f1.f1.f0), .p (.int .i64 v34.f1.f1.f1)]]) (d + 1) 12 [.box [.p (.int .i64 r35.f0), .p (.int .i64 r35.f1)]]) (d + 1) 30 (growO o49 30 4 (v48.map cTRow))) (d + 1) 42 (growO o23 42 4 (v22.map cTRow))) (d + 1) 55 (growO o52 55 4 (v51.map cTRow)) ∧ growOK o49 [30] ∧ growOK o52 [55] ∧ s.F 0 = .bp (e0, t0, 0) 0 ∧ s.F 2 = .p (.int .i64 a2) ∧ s.F 6 = .bp (d + 1, 6, 0) 0 ∧ s.F 8 = .bp (d + 1, 8, 0) 0 ∧ s.F 9 = growV o49 (d + 1) (v48.map cTRow) ∧ s.F 17 = .p (.sl (a1.map cTRow)) ∧ s.F 18 = .p (.int .i64 (a1.length : Int)) ∧ s.F 19 = .p (.int .i64 v20) ∧ True := ⟨_, rfl⟩
          refine cutG R53 ?_ ?_
          · replace h := hz
            rcases ib h with ⟨c54, h⟩ | ⟨c54, h⟩
            · obtain ⟨r55, hr55, h⟩ := bs h
              simp -implicitDefEqProofs only [go_sem, Nat.reduceEqDiff, Nat.reduceAdd, Nat.reduceLT, Nat.reduceLeDiff, Nat.reduceMul, Nat.reduceBEq, reduceIte, he0, le0, qe0, pe0, gi17, ko19, ko23, ko25, i17, c33, hv34, c44, c54]
              refine call_drwL (t0 := 999) (r := .agg [.p (.int .i64 r55.1.f0), .p (.sl (r55.1.f1.f0.map cTRat)), .p (.int .i64 r55.1.f1.f1.f0), .p (.int .i64 r55.1.f1.f1.f1)]) [(e0, t0, [.box [.p (.bool r55.2.f0)]])] (fun H => m_bound_engine_divide_ev (⟨v21⟩ : TBound_engine) v34 r35 r55 hr55 (d + 1) _ e0 t0 (Nat.le_succ_of_le he0) (by simp -implicitDefEqProofs only [go_sem, Nat.reduceEqDiff, Nat.reduceAdd, Nat.reduceLT, Nat.reduceLeDiff, Nat.reduceMul, Nat.reduceBEq, reduceIte, he0, le0, qe0, pe0, gi17, ko19, ko23, ko25, i17, c33, hv34, c44, c54]) ) (by simp -implicitDefEqProofs only [go_sem, Nat.reduceEqDiff, Nat.reduceAdd, Nat.reduceLT, Nat.reduceLeDiff, Nat.reduceMul, Nat.reduceBEq, reduceIte, he0, le0, qe0, pe0, gi17, ko19, ko23, ko25, i17, c33, hv34, c44, c54]) rfl (by simp -implicitDefEqProofs only [go_sem, Nat.reduceEqDiff, Nat.reduceAdd, Nat.reduceLT, Nat.reduceLeDiff, Nat.reduceMul, Nat.reduceBEq, reduceIte, he0, le0, qe0, pe0, gi17, ko19, ko23, ko25, i17, c33, hv34, c44, c54]) (by simp -implicitDefEqProofs only [go_sem, Nat.reduceEqDiff, Nat.reduceAdd, Nat.reduceLT, Nat.reduceLeDiff, Nat.reduceMul, Nat.reduceBEq, reduceIte, he0, le0, qe0, pe0, gi17, ko19, ko23, ko25, i17, c33, hv34, c44, c54]) (by simp -implicitDefEqProofs only [go_sem, Nat.reduceEqDiff, Nat.reduceAdd, Nat.reduceLT, Nat.reduceLeDiff, Nat.reduceMul, Nat.reduceBEq, reduceIte]) (by simp -implicitDefEqProofs only [go_sem, Nat.reduceEqDiff, Nat.reduceAdd, Nat.reduceLT, Nat.reduceLeDiff, Nat.reduceMul, Nat.reduceBEq, reduceIte, he0, le0, qe0, pe0, gi17, ko19, ko23, ko25, i17, c33, hv34, c44, c54]) (by simp -implicitDefEqProofs only [go_sem, Nat.reduceEqDiff, Nat.reduceAdd, Nat.reduceLT, Nat.reduceLeDiff, Nat.reduceMul, Nat.reduceBEq, reduceIte, he0, le0, qe0, pe0, gi17, ko19, ko23, ko25, i17, c33, hv34, c44, c54]) (fun x hx => by simp only [go_sem, reduceIte, Nat.reduceEqDiff, List.mem_cons, List.not_mem_nil, or_false] at hx; rcases hx with rfl <;> first | exact ⟨(d + 1, 8, 0), 1, rfl, by simp -implicitDefEqProofs only [go_sem, Nat.reduceEqDiff, Nat.reduceAdd, Nat.reduceLT, Nat.reduceLeDiff, Nat.reduceMul, Nat.reduceBEq, reduceIte, he0, le0, qe0, pe0, gi17, ko19, ko23, ko25, i17, c33, hv34, c44, c54], [growV o23 (d + 1) (v22.map cTRow), growV o25 (d + 1) (v24.map cTRow)], [growV o23 (d + 1) (v22.map cTRow), growV o25 (d + 1) (v24.map cTRow)], by simp -implicitDefEqProofs only [go_sem, Nat.reduceEqDiff, Nat.reduceAdd, Nat.reduceLT, Nat.reduceLeDiff, Nat.reduceMul, Nat.reduceBEq, reduceIte, he0, le0, qe0, pe0, gi17, ko19, ko23, ko25, i17, c33, hv34, c44, c54], by simp -implicitDefEqProofs only [go_sem, Nat.reduceEqDiff, Nat.reduceAdd, Nat.reduceLT, Nat.reduceLeDiff, Nat.reduceMul, Nat.reduceBEq, reduceIte, he0, le0, qe0, pe0, gi17, ko19, ko23, ko25, i17, c33, hv34, c44, c54], by simp -implicitDefEqProofs only [go_sem, Nat.reduceEqDiff, Nat.reduceAdd, Nat.reduceLT, Nat.reduceLeDiff, Nat.reduceMul, Nat.reduceBEq, reduceIte, he0, le0, qe0, pe0, gi17, ko19, ko23, ko25, i17, c33, hv34, c44, c54]⟩) (by simp -implicitDefEqProofs only [go_sem, Nat.reduceEqDiff, Nat.reduceAdd, Nat.reduceLT, Nat.reduceLeDiff, Nat.reduceMul, Nat.reduceBEq, reduceIte]) ?_
              obtain ⟨_, c56, h⟩ := bs h
              replace c56 := rqs c56
              simp -implicitDefEqProofs only [go_sem, Nat.reduceEqDiff, Nat.reduceAdd, Nat.reduceLT, Nat.reduceLeDiff, Nat.reduceMul, Nat.reduceBEq, reduceIte, he0, le0, qe0, pe0, gi17, ko19, ko23, ko25, i17, c33, hv34, c44, c54, c56, appG_grow (k := 55) ko25, appG_grow_p (k := 55) ko25]
              refine append_G (o := o25) (ts := [55]) (es := (v24 : List TRow).map cTRow) (xs := ([r55.1] : List TRow).map cTRow) (ho := growOK.sub ko25 (by decide)) (hG := by simp -implicitDefEqProofs only [go_sem, Nat.reduceEqDiff, Nat.reduceAdd, Nat.reduceLT, Nat.reduceLeDiff, Nat.reduceMul, Nat.reduceBEq, reduceIte, he0, le0, qe0, pe0, gi17, ko19, ko23, ko25, i17, c33, hv34, c44, c54, c56]) (hj := by simp -implicitDefEqProofs only [go_sem, Nat.reduceEqDiff, Nat.reduceAdd, Nat.reduceLT, Nat.reduceLeDiff, Nat.reduceMul, Nat.reduceBEq, reduceIte]) (he := el22) (hx := by simp -implicitDefEqProofs only [go_sem, Nat.reduceEqDiff, Nat.reduceAdd, Nat.reduceLT, Nat.reduceLeDiff, Nat.reduceMul, Nat.reduceBEq, reduceIte, he0, le0, qe0, pe0, gi17, ko19, ko23, ko25, i17, c33, hv34, c44, c54, c56]) (h1 := by simp -implicitDefEqProofs only [go_sem, Nat.reduceEqDiff, Nat.reduceAdd, Nat.reduceLT, Nat.reduceLeDiff, Nat.reduceMul, Nat.reduceBEq, reduceIte]) (h2 := by simp -implicitDefEqProofs only [go_sem, Nat.reduceEqDiff, Nat.reduceAdd, Nat.reduceLT, Nat.reduceLeDiff, Nat.reduceMul, Nat.reduceBEq, reduceIte]) (ha := rfl) (hra := rfl) (hb := by simpa using c56) (hbb := by decide) ?_
              intro o57 ko57
              cases h
              simp -implicitDefEqProofs only [go_sem, Nat.reduceEqDiff, Nat.reduceAdd, Nat.reduceLT, Nat.reduceLeDiff, Nat.reduceMul, Nat.reduceBEq, reduceIte, he0, le0, qe0, pe0, gi17, ko19, ko23, ko25, i17, c33, hv34, c44, c54, c56, ko57]
              rw [hR53]
              refine ⟨o19, o57, ?_⟩
              simp -implicitDefEqProofs only [go_sem, Nat.reduceEqDiff, Nat.reduceAdd, Nat.reduceLT, Nat.reduceLeDiff, Nat.reduceMul, Nat.reduceBEq, reduceIte, he0, le0, qe0, pe0, gi17, ko19, ko23, ko25, i17, c33, hv34, c44, c54, c56, ko57]
            · obtain ⟨_, c58, h⟩ := bs h
              replace c58 := rqs c58
              simp -implicitDefEqProofs only [go_sem, Nat.reduceEqDiff, Nat.reduceAdd, Nat.reduceLT, Nat.reduceLeDiff, Nat.reduceMul, Nat.reduceBEq, reduceIte, he0, le0, qe0, pe0, gi17, ko19, ko23, ko25, i17, c33, hv34, c44, c54, c58]
              refine append_G (o := o19) (ts := [30]) (es := (v18 : List TRow).map cTRow) (xs := ([v34] : List TRow).map cTRow) (ho := growOK.sub ko19 (by decide)) (hG := by simp -implicitDefEqProofs only [go_sem, Nat.reduceEqDiff, Nat.reduceAdd, Nat.reduceLT, Nat.reduceLeDiff, Nat.reduceMul, Nat.reduceBEq, reduceIte, he0, le0, qe0, pe0, gi17, ko19, ko23, ko25, i17, c33, hv34, c44, c54, c58]) (hj := by simp -implicitDefEqProofs only [go_sem, Nat.reduceEqDiff, Nat.reduceAdd, Nat.reduceLT, Nat.reduceLeDiff, Nat.reduceMul, Nat.reduceBEq, reduceIte]) (he := el22) (hx := by simp -implicitDefEqProofs only [go_sem, Nat.reduceEqDiff, Nat.reduceAdd, Nat.reduceLT, Nat.reduceLeDiff, Nat.reduceMul, Nat.reduceBEq, reduceIte, he0, le0, qe0, pe0, gi17, ko19, ko23, ko25, i17, c33, hv34, c44, c54, c58]) (h1 := by simp -implicitDefEqProofs only [go_sem, Nat.reduceEqDiff, Nat.reduceAdd, Nat.reduceLT, Nat.reduceLeDiff, Nat.reduceMul, Nat.reduceBEq, reduceIte]) (h2 := by simp -implicitDefEqProofs only [go_sem, Nat.reduceEqDiff, Nat.reduceAdd, Nat.reduceLT, Nat.reduceLeDiff, Nat.reduceMul, Nat.reduceBEq, reduceIte]) (ha := rfl) (hra := rfl) (hb := by simpa using c58) (hbb := by decide) ?_
              intro o59 ko59
              cases h
              simp -implicitDefEqProofs only [go_sem, Nat.reduceEqDiff, Nat.reduceAdd, Nat.reduceLT, Nat.reduceLeDiff, Nat.reduceMul, Nat.reduceBEq, reduceIte, he0, le0, qe0, pe0, gi17, ko19, ko23, ko25, i17, c33, hv34, c44, c54, c58, ko59]
              rw [hR53]
              refine ⟨o59, o25, ?_⟩
              simp -implicitDefEqProofs only [go_sem, Nat.reduceEqDiff, Nat.reduceAdd, Nat.reduceLT, Nat.reduceLeDiff, Nat.reduceMul, Nat.reduceBEq, reduceIte, he0, le0, qe0, pe0, gi17, ko19, ko23, ko25, i17, c33, hv34, c44, c54, c58, ko59]
          · replace h := h; clear hz
            rintro s i
            rw [hR53] at i
            obtain ⟨o49, o52, gi60, ko49, ko52, i60⟩ := i
            clear hR53
            try dsimp only at h
            cases h
            simp -implicitDefEqProofs only [go_sem, Nat.reduceEqDiff, Nat.reduceAdd, Nat.reduceLT, Nat.reduceLeDiff, Nat.reduceMul, Nat.reduceBEq, reduceIte, he0, le0, qe0, pe0, gi17, ko19, ko23, ko25, i17, c33, hv34, c44, gi60, ko49, ko52, i60]
            rw [hR43]
            refine ⟨o49, o23, o52, ?_⟩
            simp -implicitDefEqProofs only [go_sem, Nat.reduceEqDiff, Nat.reduceAdd, Nat.reduceLT, Nat.reduceLeDiff, Nat.reduceMul, Nat.reduceBEq, reduceIte, he0, le0, qe0, pe0, gi17, ko19, ko23, ko25, i17, c33, hv34, c44, gi60, ko49, ko52, i60]
      · replace h := h; clear hz
        rintro s i
        rw [hR43] at i
        obtain ⟨o37, o40, o42, gi61, ko37, ko40, ko42, i61⟩ := i
        clear hR43
        try dsimp only at h
        cases h
        simp -implicitDefEqProofs only [go_sem, Nat.reduceEqDiff, Nat.reduceAdd, Nat.reduceLT, Nat.reduceLeDiff, Nat.reduceMul, Nat.reduceBEq, reduceIte, he0, le0, qe0, pe0, gi17, ko19, ko23, ko25, i17, c33, hv34, gi61, ko37, ko40, ko42, i61]
        rw [hI17]
        refine ⟨o37, o40, o42, ?_⟩
        simp -implicitDefEqProofs only [go_sem, Nat.reduceEqDiff, Nat.reduceAdd, Nat.reduceLT, Nat.reduceLeDiff, Nat.reduceMul, Nat.reduceBEq, reduceIte, he0, le0, qe0, pe0, gi17, ko19, ko23, ko25, i17, c33, hv34, gi61, ko37, ko40, ko42, i61, poison_grow (d := d + 1) (ts := [11, 12]) ko37 (by decide), poison_grow (d := d + 1) (ts := [11, 12]) ko40 (by decide), poison_grow (d := d + 1) (ts := [11, 12]) ko42 (by decide)]
    · cases h
      simp -implicitDefEqProofs only [go_sem, Nat.reduceEqDiff, Nat.reduceAdd, Nat.reduceLT, Nat.reduceLeDiff, Nat.reduceMul, Nat.reduceBEq, reduceIte, he0, le0, qe0, pe0, gi17, ko19, ko23, ko25, i17, c33]
      rw [hR17]
      first | refine ⟨rfl, o19, o23, o25, ?_⟩ | refine ⟨(), rfl, o19, o23, o25, ?_⟩
      simp -implicitDefEqProofs only [go_sem, Nat.reduceEqDiff, Nat.reduceAdd, Nat.reduceLT, Nat.reduceLeDiff, Nat.reduceMul, Nat.reduceBEq, reduceIte, he0, le0, qe0, pe0, gi17, ko19, ko23, ko25, i17, c33]
  · clear hL17 hI17
    intro e s hr17
    rw [hR17] at hr17
    clear hR17
    rcases z17 with ⟨v26, v28, v29, v31⟩
    try dsimp only at h hr17
    obtain ⟨rfl, o27, o30, o32, gi62, ko27, ko30, ko32, i62⟩ := hr17
    simp -implicitDefEqProofs only [go_sem, Nat.reduceEqDiff, Nat.reduceAdd, Nat.reduceLT, Nat.reduceLeDiff, Nat.reduceMul, Nat.reduceBEq, reduceIte, he0, le0, qe0, pe0, gi62, ko27, ko30, ko32, i62]
    obtain ⟨v63, hz, h⟩ := bs h
    obtain ⟨R64, hR64⟩ : ∃ R : St → Prop, R = fun s => s.G = fillKey (fillKey (fillKey (fillKey (fillKey (fillKey (cut d G) e0 t0 [.box [.p (.bool v28)]]) (d + 1) 6 [.box [.csl [], .csl []]]) (d + 1) 8 [.box [growV o30 (d + 1) (v29.map cTRow), growV o32 (d + 1) (v31.map cTRow)]]) (d + 1) 30 (growO o27 30 4 (v26.map cTRow))) (d + 1) 42 (growO o30 42 4 (v29.map cTRow))) (d + 1) 55 (growO o32 55 4 (v31.map cTRow)) ∧ s.F 0 = .bp (e0, t0, 0) 0 ∧ s.F 6 = .bp (d + 1, 6, 0) 0 ∧ s.F 8 = .bp (d + 1, 8, 0) 0 ∧ s.F 9 = growV o27 (d + 1) (v26.map cTRow) ∧ s.F 74 = .p (.bool v63) ∧ True := ⟨_, rfl⟩
    refine cutR R64 ?_ ?_
    · replace h := hz
      rcases ib h with ⟨c65, h⟩ | ⟨c65, h⟩
      · cases h
        simp -implicitDefEqProofs only [go_sem, Nat.reduceEqDiff, Nat.reduceAdd, Nat.reduceLT, Nat.reduceLeDiff, Nat.reduceMul, Nat.reduceBEq, reduceIte, he0, le0, qe0, pe0, gi62, ko27, ko30, ko32, i62, c65]
        rw [hR64]
        simp -implicitDefEqProofs only [go_sem, Nat.reduceEqDiff, Nat.reduceAdd, Nat.reduceLT, Nat.reduceLeDiff, Nat.reduceMul, Nat.reduceBEq, reduceIte, he0, le0, qe0, pe0, gi62, ko27, ko30, ko32, i62, c65]
      · cases h
        simp -implicitDefEqProofs only [go_sem, Nat.reduceEqDiff, Nat.reduceAdd, Nat.reduceLT, Nat.reduceLeDiff, Nat.reduceMul, Nat.reduceBEq, reduceIte, he0, le0, qe0, pe0, gi62, ko27, ko30, ko32, i62, c65]
        rw [hR64]
        simp -implicitDefEqProofs only [go_sem, Nat.reduceEqDiff, Nat.reduceAdd, Nat.reduceLT, Nat.reduceLeDiff, Nat.reduceMul, Nat.reduceBEq, reduceIte, he0, le0, qe0, pe0, gi62, ko27, ko30, ko32, i62, c65]
    · replace h := h; clear hz
      rintro s i
      rw [hR64] at i
      obtain ⟨gi66, i66⟩ := i
      clear hR64
      try dsimp only at h
      rcases ib h with ⟨c67, h⟩ | ⟨c67, h⟩
      · cases h
        subst hQ
        simp -implicitDefEqProofs only [go_sem, Nat.reduceEqDiff, Nat.reduceAdd, Nat.reduceLT, Nat.reduceLeDiff, Nat.reduceMul, Nat.reduceBEq, reduceIte, he0, le0, qe0, pe0, gi62, ko27, ko30, ko32, i62, gi66, i66, c67, Try.results39]
      · simp -implicitDefEqProofs only [go_sem, Nat.reduceEqDiff, Nat.reduceAdd, Nat.reduceLT, Nat.reduceLeDiff, Nat.reduceMul, Nat.reduceBEq, reduceIte, he0, le0, qe0, pe0, gi62, ko27, ko30, ko32, i62, gi66, i66, c67]
        obtain ⟨z76, hL76, h⟩ := bs h
        obtain ⟨I76, hI76⟩ : ∃ I : ((List TRow) × Int × Bool) → St → Prop, I = fun a s => match a with | (v77, v79, v80) => ∃ o78, s.G = fillKey (fillKey (fillKey (fillKey (fillKey (fillKey (fillKey (cut d G) e0 t0 [.box [.p (.bool v80)]]) (d + 1) 6 [.box [.csl [], .csl []]]) (d + 1) 8 [.box [growV o30 (d + 1) (v29.map cTRow), growV o32 (d + 1) (v31.map cTRow)]]) (d + 1) 30 (growO o78 30 4 (v77.map cTRow))) (d + 1) 42 (growO o30 42 4 (v29.map cTRow))) (d + 1) 55 (growO o32 55 4 (v31.map cTRow))) (d + 1) 110 (growO o78 110 4 (v77.map cTRow)) ∧ growOK o78 [30, 110] ∧ s.F 0 = .bp (e0, t0, 0) 0 ∧ s.F 6 = .bp (d + 1, 6, 0) 0 ∧ s.F 8 = .bp (d + 1, 8, 0) 0 ∧ s.F 9 = growV o78 (d + 1) (v77.map cTRow) ∧ s.F 80 = growV o30 (d + 1) (v29.map cTRow) ∧ s.F 81 = .p (.int .i64 (v29.length : Int)) ∧ s.F 82 = .p (.int .i64 v79) ∧ True := ⟨_, rfl⟩
        obtain ⟨R76, hR76⟩ : ∃ R : ((List TRow) × Bool) → GE → St → Prop, R = fun x e s => match x with | (v81, v83) => e = .exit 3 ∧ (∃ o82, s.G = fillKey (fillKey (fillKey (fillKey (fillKey (fillKey (fillKey (cut d G) e0 t0 [.box [.p (.bool v83)]]) (d + 1) 6 [.box [.csl [], .csl []]]) (d + 1) 8 [.box [growV o30 (d + 1) (v29.map cTRow), growV o32 (d + 1) (v31.map cTRow)]]) (d + 1) 30 (growO o82 30 4 (v81.map cTRow))) (d + 1) 42 (growO o30 42 4 (v29.map cTRow))) (d + 1) 55 (growO o32 55 4 (v31.map cTRow))) (d + 1) 110 (growO o82 110 4 (v81.map cTRow)) ∧ growOK o82 [30, 110] ∧ s.F 6 = .bp (d + 1, 6, 0) 0 ∧ s.F 8 = .bp (d + 1, 8, 0) 0 ∧ s.F 9 = growV o82 (d + 1) (v81.map cTRow) ∧ True) := ⟨_, rfl⟩
        refine lp (ts := [14, 16]) rfl hL76 I76 R76 ?_ ?_ ?_
        · rw [hI76]
          refine ⟨o27, ?_⟩
          simp -implicitDefEqProofs only [go_sem, Nat.reduceEqDiff, Nat.reduceAdd, Nat.reduceLT, Nat.reduceLeDiff, Nat.reduceMul, Nat.reduceBEq, reduceIte, he0, le0, qe0, pe0, gi62, ko27, ko30, ko32, i62, gi66, i66, c67, poison_grow (d := d + 1) (ts := [14, 16]) ko27 (by decide), poison_grow (d := d + 1) (ts := [14, 16]) ko30 (by decide), poison_grow (d := d + 1) (ts := [14, 16]) ko32 (by decide), growO_out (t := 110) ko27 (by decide), growOK_eq (ts' := [30, 110]) ko27 (by decide)]
        · clear h hL76
          rintro ⟨v77, v79, v80⟩ y s h i
          rw [hI76] at i
          obtain ⟨o78, gi76, ko78, i76⟩ := i
          replace h : m_bound_engine_drop_L1 v29 v31 (v77, v79, v80) = some y := h
          unfold m_bound_engine_drop_L1 at h
          rcases ib h with ⟨c84, h⟩ | ⟨c84, h⟩
          · obtain ⟨v85, hv85, h⟩ := bs h
            replace hv85 := gis hv85
            simp -implicitDefEqProofs only [go_sem, Nat.reduceEqDiff, Nat.reduceAdd, Nat.reduceLT, Nat.reduceLeDiff, Nat.reduceMul, Nat.reduceBEq, reduceIte, he0, le0, qe0, pe0, gi62, ko27, ko30, ko32, i62, gi66, i66, c67, gi76, ko78, i76, c84, hv85]
            obtain ⟨z94, hL94, h⟩ := bs h
            obtain ⟨I94, hI94⟩ : ∃ I : ((List TRow) × Int × Bool) → St → Prop, I = fun a s => match a with | (v95, v97, v98) => ∃ o96, s.G = fillKey (fillKey (fillKey (fillKey (fillKey (fillKey (fillKey (fillKey (cut d G) e0 t0 [.box [.p (.bool v98)]]) (d + 1) 6 [.box [.csl [], .csl []]]) (d + 1) 8 [.box [growV o30 (d + 1) (v29.map cTRow), growV o32 (d + 1) (v31.map cTRow)]]) (d + 1) 14 [.box [.p (.int .i64 v85.f0), .p (.sl (v85.f1.f0.map cTRat)), .p (.int .i64 v85.f1.f1.f0), .p (.int .i64 v85.f1.f1.f1)]]) (d + 1) 30 (growO o96 30 4 (v95.map cTRow))) (d + 1) 42 (growO o30 42 4 (v29.map cTRow))) (d + 1) 55 (growO o32 55 4 (v31.map cTRow))) (d + 1) 110 (growO o96 110 4 (v95.map cTRow)) ∧ growOK o96 [30, 110] ∧ s.F 0 = .bp (e0, t0, 0) 0 ∧ s.F 6 = .bp (d + 1, 6, 0) 0 ∧ s.F 8 = .bp (d + 1, 8, 0) 0 ∧ s.F 9 = growV o96 (d + 1) (v95.map cTRow) ∧ s.F 14 = .bp (d + 1, 14, 0) 0 ∧ s.F 80 = growV o30 (d + 1) (v29.map cTRow) ∧ s.F 81 = .p (.int .i64 (v29.length : Int)) ∧ s.F 82 = .p (.int .i64 v79) ∧ s.F 87 = growV o32 (d + 1) (v31.map cTRow) ∧ s.F 88 = .p (.int .i64 (v31.length : Int)) ∧ s.F 89 = .p (.int .i64 v97) ∧ True := ⟨_, rfl⟩
            obtain ⟨R94, hR94⟩ : ∃ R : ((List TRow) × Bool) → GE → St → Prop, R = fun x e s => match x with | (v99, v101) => e = .exit 5 ∧ (∃ o100, s.G = fillKey (fillKey (fillKey (fillKey (fillKey (fillKey (fillKey (fillKey (cut d G) e0 t0 [.box [.p (.bool v101)]]) (d + 1) 6 [.box [.csl [], .csl []]]) (d + 1) 8 [.box [growV o30 (d + 1) (v29.map cTRow), growV o32 (d + 1) (v31.map cTRow)]]) (d + 1) 14 [.box [.p (.int .i64 v85.f0), .p (.sl (v85.f1.f0.map cTRat)), .p (.int .i64 v85.f1.f1.f0), .p (.int .i64 v85.f1.f1.f1)]]) (d + 1) 30 (growO o100 30 4 (v99.map cTRow))) (d + 1) 42 (growO o30 42 4 (v29.map cTRow))) (d + 1) 55 (growO o32 55 4 (v31.map cTRow))) (d + 1) 110 (growO o100 110 4 (v99.map cTRow)) ∧ growOK o100 [30, 110] ∧ s.F 0 = .bp (e0, t0, 0) 0 ∧ s.F 6 = .bp (d + 1, 6, 0) 0 ∧ s.F 8 = .bp (d + 1, 8, 0) 0 ∧ s.F 9 = growV o100 (d + 1) (v99.map cTRow) ∧ s.F 80 = growV o30 (d + 1) (v29.map cTRow) ∧ s.F 81 = .p (.int .i64 (v29.length : Int)) ∧ s.F 82 = .p (.int .i64 v79) ∧ True) := ⟨_, rfl⟩
            refine lp (ts := [16]) rfl hL94 I94 R94 ?_ ?_ ?_
            · rw [hI94]
              refine ⟨o78, ?_⟩
              simp -implicitDefEqProofs only [go_sem, Nat.reduceEqDiff, Nat.reduceAdd, Nat.reduceLT, Nat.reduceLeDiff, Nat.reduceMul, Nat.reduceBEq, reduceIte, he0, le0, qe0, pe0, gi62, ko27, ko30, ko32, i62, gi66, i66, c67, gi76, ko78, i76, c84, hv85, poison_grow (d := d + 1) (ts := [16]) ko78 (by decide), poison_grow (d := d + 1) (ts := [16]) ko30 (by decide), poison_grow (d := d + 1) (ts := [16]) ko32 (by decide)]
            · clear h hL94
              rintro ⟨v95, v97, v98⟩ y s h i
              rw [hI94] at i
              obtain ⟨o96, gi94, ko96, i94⟩ := i
              replace h : m_bound_engine_drop_L2 v31 v85 (v95, v97, v98) = some y := h
              unfold m_bound_engine_drop_L2 at h
              rcases ib h with ⟨c102, h⟩ | ⟨c102, h⟩
              · obtain ⟨v103, hv103, h⟩ := bs h
                replace hv103 := gis hv103
                obtain ⟨r104, hr104, h⟩ := bs h
                simp -implicitDefEqProofs only [go_sem, Nat.reduceEqDiff, Nat.reduceAdd, Nat.reduceLT, Nat.reduceLeDiff, Nat.reduceMul, Nat.reduceBEq, reduceIte, he0, le0, qe0, pe0, gi62, ko27, ko30, ko32, i62, gi66, i66, c67, gi76, ko78, i76, c84, hv85, gi94, ko96, i94, c102, hv103]
                refine call_frz (r' := .tup [.agg [.p (.sl (r104.1.f0.map cTRat)), .p (.int .i64 r104.1.f1.f0), .p (.int .i64 r104.1.f1.f1)], .p (.int .i64 r104.2)]) (m_term_Add_ev v85.f1 v103.f1 r104 hr104 (d + 1) empty) (by simp -implicitDefEqProofs only [go_sem, Nat.reduceEqDiff, Nat.reduceAdd, Nat.reduceLT, Nat.reduceLeDiff, Nat.reduceMul, Nat.reduceBEq, reduceIte, he0, le0, qe0, pe0, gi62, ko27, ko30, ko32, i62, gi66, i66, c67, gi76, ko78, i76, c84, hv85, gi94, ko96, i94, c102, hv103]) rfl (by simp -implicitDefEqProofs only [go_sem, Nat.reduceEqDiff, Nat.reduceAdd, Nat.reduceLT, Nat.reduceLeDiff, Nat.reduceMul, Nat.reduceBEq, reduceIte]) (by simp -implicitDefEqProofs only [go_sem, Nat.reduceEqDiff, Nat.reduceAdd, Nat.reduceLT, Nat.reduceLeDiff, Nat.reduceMul, Nat.reduceBEq, reduceIte]) ?_ rfl rfl
                obtain ⟨r105, hr105, h⟩ := bs h
                simp -implicitDefEqProofs only [go_sem, Nat.reduceEqDiff, Nat.reduceAdd, Nat.reduceLT, Nat.reduceLeDiff, Nat.reduceMul, Nat.reduceBEq, reduceIte, he0, le0, qe0, pe0, gi62, ko27, ko30, ko32, i62, gi66, i66, c67, gi76, ko78, i76, c84, hv85, gi94, ko96, i94, c102, hv103]
                refine call_drwL (t0 := 999) (r := .agg [.p (.sl (r105.1.f0.map cTRat)), .p (.int .i64 r105.1.f1.f0), .p (.int .i64 r105.1.f1.f1)]) [(e0, t0, [.box [.p (.bool r105.2.f0)]])] (fun H => m_bound_engine_term_ev (⟨v98⟩ : TBound_engine) r104.1 r104.2 r105 hr105 (d + 1) _ e0 t0 (Nat.le_succ_of_le he0) (by simp -implicitDefEqProofs only [go_sem, Nat.reduceEqDiff, Nat.reduceAdd, Nat.reduceLT, Nat.reduceLeDiff, Nat.reduceMul, Nat.reduceBEq, reduceIte, he0, le0, qe0, pe0, gi62, ko27, ko30, ko32, i62, gi66, i66, c67, gi76, ko78, i76, c84, hv85, gi94, ko96, i94, c102, hv103]) ) (by simp -implicitDefEqProofs only [go_sem, Nat.reduceEqDiff, Nat.reduceAdd, Nat.reduceLT, Nat.reduceLeDiff, Nat.reduceMul, Nat.reduceBEq, reduceIte, he0, le0, qe0, pe0, gi62, ko27, ko30, ko32, i62, gi66, i66, c67, gi76, ko78, i76, c84, hv85, gi94, ko96, i94, c102, hv103]) rfl (by simp -implicitDefEqProofs only [go_sem, Nat.reduceEqDiff, Nat.reduceAdd, Nat.reduceLT, Nat.reduceLeDiff, Nat.reduceMul, Nat.reduceBEq, reduceIte, he0, le0, qe0, pe0, gi62, ko27, ko30, ko32, i62, gi66, i66, c67, gi76, ko78, i76, c84, hv85, gi94, ko96, i94, c102, hv103]) (by simp -implicitDefEqProofs only [go_sem, Nat.reduceEqDiff, Nat.reduceAdd, Nat.reduceLT, Nat.reduceLeDiff, Nat.reduceMul, Nat.reduceBEq, reduceIte, he0, le0, qe0, pe0, gi62, ko27, ko30, ko32, i62, gi66, i66, c67, gi76, ko78, i76, c84, hv85, gi94, ko96, i94, c102, hv103]) (by simp -implicitDefEqProofs only [go_sem, Nat.reduceEqDiff, Nat.reduceAdd, Nat.reduceLT, Nat.reduceLeDiff, Nat.reduceMul, Nat.reduceBEq, reduceIte]) (by simp -implicitDefEqProofs only [go_sem, Nat.reduceEqDiff, Nat.reduceAdd, Nat.reduceLT, Nat.reduceLeDiff, Nat.reduceMul, Nat.reduceBEq, reduceIte, he0, le0, qe0, pe0, gi62, ko27, ko30, ko32, i62, gi66, i66, c67, gi76, ko78, i76, c84, hv85, gi94, ko96, i94, c102, hv103]) (by simp -implicitDefEqProofs only [go_sem, Nat.reduceEqDiff, Nat.reduceAdd, Nat.reduceLT, Nat.reduceLeDiff, Nat.reduceMul, Nat.reduceBEq, reduceIte, he0, le0, qe0, pe0, gi62, ko27, ko30, ko32, i62, gi66, i66, c67, gi76, ko78, i76, c84, hv85, gi94, ko96, i94, c102, hv103]) (fun x hx => by simp only [go_sem, reduceIte, Nat.reduceEqDiff, List.mem_cons, List.not_mem_nil, or_false] at hx; rcases hx with rfl | rfl <;> first | exact ⟨(d + 1, 14, 0), 0, rfl, by simp -implicitDefEqProofs only [go_sem, Nat.reduceEqDiff, Nat.reduceAdd, Nat.reduceLT, Nat.reduceLeDiff, Nat.reduceMul, Nat.reduceBEq, reduceIte, he0, le0, qe0, pe0, gi62, ko27, ko30, ko32, i62, gi66, i66, c67, gi76, ko78, i76, c84, hv85, gi94, ko96, i94, c102, hv103], [.p (.int .i64 v85.f0), .p (.sl (v85.f1.f0.map cTRat)), .p (.int .i64 v85.f1.f1.f0), .p (.int .i64 v85.f1.f1.f1)], [.p (.int .i64 v85.f0), .p (.sl (v85.f1.f0.map cTRat)), .p (.int .i64 v85.f1.f1.f0), .p (.int .i64 v85.f1.f1.f1)], by simp -implicitDefEqProofs only [go_sem, Nat.reduceEqDiff, Nat.reduceAdd, Nat.reduceLT, Nat.reduceLeDiff, Nat.reduceMul, Nat.reduceBEq, reduceIte, he0, le0, qe0, pe0, gi62, ko27, ko30, ko32, i62, gi66, i66, c67, gi76, ko78, i76, c84, hv85, gi94, ko96, i94, c102, hv103], by simp -implicitDefEqProofs only [go_sem, Nat.reduceEqDiff, Nat.reduceAdd, Nat.reduceLT, Nat.reduceLeDiff, Nat.reduceMul, Nat.reduceBEq, reduceIte, he0, le0, qe0, pe0, gi62, ko27, ko30, ko32, i62, gi66, i66, c67, gi76, ko78, i76, c84, hv85, gi94, ko96, i94, c102, hv103], by simp -implicitDefEqProofs only [go_sem, Nat.reduceEqDiff, Nat.reduceAdd, Nat.reduceLT, Nat.reduceLeDiff, Nat.reduceMul, Nat.reduceBEq, reduceIte, he0, le0, qe0, pe0, gi62, ko27, ko30, ko32, i62, gi66, i66, c67, gi76, ko78, i76, c84, hv85, gi94, ko96, i94, c102, hv103]⟩ | exact ⟨(d + 1, 16, 0), 0, rfl, by simp -implicitDefEqProofs only [go_sem, Nat.reduceEqDiff, Nat.reduceAdd, Nat.reduceLT, Nat.reduceLeDiff, Nat.reduceMul, Nat.reduceBEq, reduceIte, he0, le0, qe0, pe0, gi62, ko27, ko30, ko32, i62, gi66, i66, c67, gi76, ko78, i76, c84, hv85, gi94, ko96, i94, c102, hv103], [.p (.int .i64 v103.f0), .p (.sl (v103.f1.f0.map cTRat)), .p (.int .i64 v103.f1.f1.f0), .p (.int .i64 v103.f1.f1.f1)], [.p (.int .i64 v103.f0), .p (.sl (v103.f1.f0.map cTRat)), .p (.int .i64 v103.f1.f1.f0), .p (.int .i64 v103.f1.f1.f1)], by simp -implicitDefEqProofs only [go_sem, Nat.reduceEqDiff, Nat.reduceAdd, Nat.reduceLT, Nat.reduceLeDiff, Nat.reduceMul, Nat.reduceBEq, reduceIte, he0, le0, qe0, pe0, gi62, ko27, ko30, ko32, i62, gi66, i66, c67, gi76, ko78, i76, c84, hv85, gi94, ko96, i94, c102, hv103], by simp -implicitDefEqProofs only [go_sem, Nat.reduceEqDiff, Nat.reduceAdd, Nat.reduceLT, Nat.reduceLeDiff, Nat.reduceMul, Nat.reduceBEq, reduceIte, he0, le0, qe0, pe0, gi62, ko27, ko30, ko32, i62, gi66, i66, c67, gi76, ko78, i76, c84, hv85, gi94, ko96, i94, c102, hv103], by simp -implicitDefEqProofs only [go_sem, Nat.reduceEqDiff, Nat.reduceAdd, Nat.reduceLT, Nat.reduceLeDiff, Nat.reduceMul, Nat.reduceBEq, reduceIte, he0, le0, qe0, pe0, gi62, ko27, ko30, ko32, i62, gi66, i66, c67, gi76, ko78, i76, c84, hv85, gi94, ko96, i94, c102, hv103]⟩) (by simp -implicitDefEqProofs only [go_sem, Nat.reduceEqDiff, Nat.reduceAdd, Nat.reduceLT, Nat.reduceLeDiff, Nat.reduceMul, Nat.reduceBEq, reduceIte]) ?_
                obtain ⟨_, c106, h⟩ := bs h
                replace c106 := rqs c106
                simp -implicitDefEqProofs only [go_sem, Nat.reduceEqDiff, Nat.reduceAdd, Nat.reduceLT, Nat.reduceLeDiff, Nat.reduceMul, Nat.reduceBEq, reduceIte, he0, le0, qe0, pe0, gi62, ko27, ko30, ko32, i62, gi66, i66, c67, gi76, ko78, i76, c84, hv85, gi94, ko96, i94, c102, hv103, c106]
                refine append_G (o := o96) (ts := [30, 110]) (es := (v95 : List TRow).map cTRow) (xs := ([(⟨(if v85.f0 < v103.f0 then v103.f0 else v85.f0), r105.1⟩ : TRow)] : List TRow).map cTRow) (ho := growOK.sub ko96 (by decide)) (hG := by simp -implicitDefEqProofs only [go_sem, Nat.reduceEqDiff, Nat.reduceAdd, Nat.reduceLT, Nat.reduceLeDiff, Nat.reduceMul, Nat.reduceBEq, reduceIte, he0, le0, qe0, pe0, gi62, ko27, ko30, ko32, i62, gi66, i66, c67, gi76, ko78, i76, c84, hv85, gi94, ko96, i94, c102, hv103, c106]) (hj := by simp -implicitDefEqProofs only [go_sem, Nat.reduceEqDiff, Nat.reduceAdd, Nat.reduceLT, Nat.reduceLeDiff, Nat.reduceMul, Nat.reduceBEq, reduceIte]) (he := el22) (hx := by simp -implicitDefEqProofs only [go_sem, Nat.reduceEqDiff, Nat.reduceAdd, Nat.reduceLT, Nat.reduceLeDiff, Nat.reduceMul, Nat.reduceBEq, reduceIte, he0, le0, qe0, pe0, gi62, ko27, ko30, ko32, i62, gi66, i66, c67, gi76, ko78, i76, c84, hv85, gi94, ko96, i94, c102, hv103, c106]) (h1 := by simp -implicitDefEqProofs only [go_sem, Nat.reduceEqDiff, Nat.reduceAdd, Nat.reduceLT, Nat.reduceLeDiff, Nat.reduceMul, Nat.reduceBEq, reduceIte]) (h2 := by simp -implicitDefEqProofs only [go_sem, Nat.reduceEqDiff, Nat.reduceAdd, Nat.reduceLT, Nat.reduceLeDiff, Nat.reduceMul, Nat.reduceBEq, reduceIte]) (ha := rfl) (hra := rfl) (hb := by simpa using c106) (hbb := by decide) ?_
                intro o107 ko107
                cases h
                simp -implicitDefEqProofs only [go_sem, Nat.reduceEqDiff, Nat.reduceAdd, Nat.reduceLT, Nat.reduceLeDiff, Nat.reduceMul, Nat.reduceBEq, reduceIte, he0, le0, qe0, pe0, gi62, ko27, ko30, ko32, i62, gi66, i66, c67, gi76, ko78, i76, c84, hv85, gi94, ko96, i94, c102, hv103, c106, ko107]
                rw [hI94]
                refine ⟨o107, ?_⟩
                simp -implicitDefEqProofs only [go_sem, Nat.reduceEqDiff, Nat.reduceAdd, Nat.reduceLT, Nat.reduceLeDiff, Nat.reduceMul, Nat.reduceBEq, reduceIte, he0, le0, qe0, pe0, gi62, ko27, ko30, ko32, i62, gi66, i66, c67, gi76, ko78, i76, c84, hv85, gi94, ko96, i94, c102, hv103, c106, ko107, poison_grow (d := d + 1) (ts := [16]) ko107 (by decide), poison_grow (d := d + 1) (ts := [16]) ko30 (by decide), poison_grow (d := d + 1) (ts := [16]) ko32 (by decide), poison_grow (d := d + 1) (ts := [16]) ko96 (by decide)]
              · cases h
                simp -implicitDefEqProofs only [go_sem, Nat.reduceEqDiff, Nat.reduceAdd, Nat.reduceLT, Nat.reduceLeDiff, Nat.reduceMul, Nat.reduceBEq, reduceIte, he0, le0, qe0, pe0, gi62, ko27, ko30, ko32, i62, gi66, i66, c67, gi76, ko78, i76, c84, hv85, gi94, ko96, i94, c102]
                rw [hR94]
                first | refine ⟨rfl, o96, ?_⟩ | refine ⟨(), rfl, o96, ?_⟩
                simp -implicitDefEqProofs only [go_sem, Nat.reduceEqDiff, Nat.reduceAdd, Nat.reduceLT, Nat.reduceLeDiff, Nat.reduceMul, Nat.reduceBEq, reduceIte, he0, le0, qe0, pe0, gi62, ko27, ko30, ko32, i62, gi66, i66, c67, gi76, ko78, i76, c84, hv85, gi94, ko96, i94, c102]
            · clear hL94 hI94
              intro e s hr94
              rw [hR94] at hr94
              clear hR94
              rcases z94 with ⟨v99, v101⟩
              try dsimp only at h hr94
              obtain ⟨rfl, o100, gi108, ko100, i108⟩ := hr94
              cases h
              simp -implicitDefEqProofs only [go_sem, Nat.reduceEqDiff, Nat.reduceAdd, Nat.reduceLT, Nat.reduceLeDiff, Nat.reduceMul, Nat.reduceBEq, reduceIte, he0, le0, qe0, pe0, gi62, ko27, ko30, ko32, i62, gi66, i66, c67, gi76, ko78, i76, c84, hv85, gi108, ko100, i108]
              rw [hI76]
              refine ⟨o100, ?_⟩
              simp -implicitDefEqProofs only [go_sem, Nat.reduceEqDiff, Nat.reduceAdd, Nat.reduceLT, Nat.reduceLeDiff, Nat.reduceMul, Nat.reduceBEq, reduceIte, he0, le0, qe0, pe0, gi62, ko27, ko30, ko32, i62, gi66, i66, c67, gi76, ko78, i76, c84, hv85, gi108, ko100, i108, poison_grow (d := d + 1) (ts := [14, 16]) ko100 (by decide), poison_grow (d := d + 1) (ts := [14, 16]) ko30 (by decide), poison_grow (d := d + 1) (ts := [14, 16]) ko32 (by decide)]
          · cases h
            simp -implicitDefEqProofs only [go_sem, Nat.reduceEqDiff, Nat.reduceAdd, Nat.reduceLT, Nat.reduceLeDiff, Nat.reduceMul, Nat.reduceBEq, reduceIte, he0, le0, qe0, pe0, gi62, ko27, ko30, ko32, i62, gi66, i66, c67, gi76, ko78, i76, c84]
            rw [hR76]
            first | refine ⟨rfl, o78, ?_⟩ | refine ⟨(), rfl, o78, ?_⟩
            simp -implicitDefEqProofs only [go_sem, Nat.reduceEqDiff, Nat.reduceAdd, Nat.reduceLT, Nat.reduceLeDiff, Nat.reduceMul, Nat.reduceBEq, reduceIte, he0, le0, qe0, pe0, gi62, ko27, ko30, ko32, i62, gi66, i66, c67, gi76, ko78, i76, c84]
        · clear hL76 hI76
          intro e s hr76
          rw [hR76] at hr76
          clear hR76
          rcases z76 with ⟨v81, v83⟩
          try dsimp only at h hr76
          obtain ⟨rfl, o82, gi109, ko82, i109⟩ := hr76
          cases h
          subst hQ
          simp -implicitDefEqProofs only [go_sem, Nat.reduceEqDiff, Nat.reduceAdd, Nat.reduceLT, Nat.reduceLeDiff, Nat.reduceMul, Nat.reduceBEq, reduceIte, he0, le0, qe0, pe0, gi62, ko27, ko30, ko32, i62, gi66, i66, c67, gi109, ko82, i109, Try.results39]
theorem m_bound_engine_edge_ev (a0 : TBound_engine) (a1 : List TRow) (a2 : List TRat) (a3 : Bool) (r0 : TRat × Bool × TBound_engine × (List TRat)) (h : m_bound_engine_edge a0 a1 a2 a3 = some r0) (d : Nat) (G : Heap) (e0 t0 : Nat) (he0 : e0 ≤ d) (hGt0 : G e0 t0 = [.box [.p (.bool a0.f0)]]) (e1 t1 : Nat) (he1 : e1 ≤ d) (hGt1 : G e1 t1 = [.arr (a2.map cTRat)]) (hxt0t1 : (e0 = e1 ∧ t0 = t1) = False) : Tel Try.prog TB d 103 [.bp (e0, t0, 0) 0, .p (.sl (a1.map cTRow)), .arr (e1, t1, 0) a2.length 2, .p (.bool a3)] G (.tup [.agg ((cTRat r0.1).map .p), .p (.bool r0.2.1)]) (fillKey (fillKey (G) e0 t0 ([.box [.p (.bool r0.2.2.1.f0)]])) e1 t1 ([.arr (r0.2.2.2.map cTRat)])) := by
  unfold m_bound_engine_edge at h
  refine Tel.intro mix Try.func103 rfl (Nat.le_of_ble_eq_true rfl) {openAt := fun t => t == 29, borAt := fun t => t == 26, frzAt := fun t => t == 42, clean := fun r => if r = 3 then [12, 13] else []} (by kernel_rfl) (by kernel_rfl) ?_
  have le0 : (e0 ≤ d + 1) = True := by simp; omega
  have qe0 : (e0 = d + 1) = False := by simp; omega
  have pe0 : (d + 1 = e0) = False := by simp; omega
  have le1 : (e1 ≤ d + 1) = True := by simp; omega
  have qe1 : (e1 = d + 1) = False := by simp; omega
  have pe1 : (d + 1 = e1) = False := by simp; omega
  have hxt1t0 : (e1 = e0 ∧ t1 = t0) = False := by rw [← hxt0t1]; simp only [eq_comm]
  have wt0t1 := fk_swap (a := e1) (b := t1) (a' := e0) (b' := t0) (fun x => by rw [← hxt1t0]; exact x)
  refine gwp_heap (H' := fillKey (fillKey (cut d G) e0 t0 [.box [.p (.bool a0.f0)]]) e1 t1 [.arr (a2.map cTRat)]) ?_ ?_
  · rw [fill_self (B := cut d G) (a := e0) (b := t0) (by rw [cut_app, if_pos he0]; exact hGt0), fill_self (B := cut d G) (a := e1) (b := t1) (by rw [cut_app, if_pos he1]; exact hGt1)]
  generalize hQ : callPost _ _ _ _ _ = Q
  simp -implicitDefEqProofs only [go_sem, Nat.reduceEqDiff, Nat.reduceAdd, Nat.reduceLT, Nat.reduceLeDiff, Nat.reduceMul, Nat.reduceBEq, reduceIte, he0, le0, qe0, pe0, he1, le1, qe1, pe1, hxt0t1, hxt1t0, wt0t1]
  obtain ⟨z9, hL9, h⟩ := bs h
  obtain ⟨I9, hI9⟩ : ∃ I : (Int × Bool × Int × Int) → St → Prop, I = fun a s => match a with | (v10, v11, v12, v13) => s.G = fillKey (fillKey (fillKey (fillKey (cut d G) e0 t0 [.box [.p (.bool v11)]]) e1 t1 [.arr (a2.map cTRat)]) (d + 1) 8 [.box [.p (.int .i64 0), .p (.int .i64 0)]]) (d + 1) 10 [.box [.p (.int .i64 v12), .p (.int .i64 v13)]] ∧ s.F 0 = .bp (e0, t0, 0) 0 ∧ s.F 1 = .p (.sl (a1.map cTRow)) ∧ s.F 2 = .arr (e1, t1, 0) a2.length 2 ∧ s.F 3 = .p (.bool a3) ∧ s.F 8 = .bp (d + 1, 8, 0) 0 ∧ s.F 10 = .bp (d + 1, 10, 0) 0 ∧ s.F 15 = .p (.sl (a1.map cTRow)) ∧ s.F 16 = .p (.int .i64 (a1.length : Int)) ∧ s.F 17 = .p (.int .i64 v10) ∧ True := ⟨_, rfl⟩
  obtain ⟨R9, hR9⟩ : ∃ R : ((Bool × Int × Int) ⊕ (TRat × Bool × TBound_engine × (List TRat))) → GE → St → Prop, R = fun x e s => match x with | .inl (v14, v15, v16) => e = .exit 0 ∧ s.G = fillKey (fillKey (fillKey (fillKey (cut d G) e0 t0 [.box [.p (.bool v14)]]) e1 t1 [.arr (a2.map cTRat)]) (d + 1) 8 [.box [.p (.int .i64 0), .p (.int .i64 0)]]) (d + 1) 10 [.box [.p (.int .i64 v15), .p (.int .i64 v16)]] ∧ s.F 1 = .p (.sl (a1.map cTRow)) ∧ s.F 8 = .bp (d + 1, 8, 0) 0 ∧ s.F 10 = .bp (d + 1, 10, 0) 0 ∧ True | .inr r => e = .ret ∧ (r = r0 → Q .ret s) := ⟨_, rfl⟩
  refine lp (ts := [12, 13]) rfl hL9 I9 R9 ?_ ?_ ?_
  · rw [hI9]
    simp -implicitDefEqProofs only [go_sem, Nat.reduceEqDiff, Nat.reduceAdd, Nat.reduceLT, Nat.reduceLeDiff, Nat.reduceMul, Nat.reduceBEq, reduceIte, he0, le0, qe0, pe0, he1, le1, qe1, pe1, hxt0t1, hxt1t0, wt0t1]
  · clear h hL9
    rintro ⟨v10, v11, v12, v13⟩ y s h i
    rw [hI9] at i
    obtain ⟨gi9, i9⟩ := i
    replace h : m_bound_engine_edge_L0 a1 a2 a3 (v10, v11, v12, v13) = some y := h
    unfold m_bound_engine_edge_L0 at h
    rcases ib h with ⟨c17, h⟩ | ⟨c17, h⟩
    · obtain ⟨v18, hv18, h⟩ := bs h
      replace hv18 := gis hv18
      obtain ⟨r19, hr19, h⟩ := bs h
      simp -implicitDefEqProofs only [go_sem, Nat.reduceEqDiff, Nat.reduceAdd, Nat.reduceLT, Nat.reduceLeDiff, Nat.reduceMul, Nat.reduceBEq, reduceIte, he0, le0, qe0, pe0, he1, le1, qe1, pe1, hxt0t1, hxt1t0, wt0t1, gi9, i9, c17, hv18]
      refine call_look (m_term_Value_ev v18.f1 a2 r19 hr19 (d + 1) empty) (by simp -implicitDefEqProofs only [go_sem, Nat.reduceEqDiff, Nat.reduceAdd, Nat.reduceLT, Nat.reduceLeDiff, Nat.reduceMul, Nat.reduceBEq, reduceIte, he0, le0, qe0, pe0, he1, le1, qe1, pe1, hxt0t1, hxt1t0, wt0t1, gi9, i9, c17, hv18]) (by simp -implicitDefEqProofs only [go_sem, Nat.reduceEqDiff, Nat.reduceAdd, Nat.reduceLT, Nat.reduceLeDiff, Nat.reduceMul, Nat.reduceBEq, reduceIte]) (by simp -implicitDefEqProofs only [go_sem, Nat.reduceEqDiff, Nat.reduceAdd, Nat.reduceLT, Nat.reduceLeDiff, Nat.reduceMul, Nat.reduceBEq, reduceIte]) ?_ rfl
      obtain ⟨r20, hr20, h⟩ := bs h
      simp -implicitDefEqProofs only [go_sem, Nat.reduceEqDiff, Nat.reduceAdd, Nat.reduceLT, Nat.reduceLeDiff, Nat.reduceMul, Nat.reduceBEq, reduceIte, he0, le0, qe0, pe0, he1, le1, qe1, pe1, hxt0t1, hxt1t0, wt0t1, gi9, i9, c17, hv18]
      refine call_open0 (t0 := 999) (r := .agg [.p (.int .i64 r20.1.f0), .p (.int .i64 r20.1.f1)]) (m_bound_engine_rat_ev (⟨v11⟩ : TBound_engine) r19.1 r19.2 r20 hr20 (d + 1) _ e0 t0 (Nat.le_succ_of_le he0) (by simp -implicitDefEqProofs only [go_sem, Nat.reduceEqDiff, Nat.reduceAdd, Nat.reduceLT, Nat.reduceLeDiff, Nat.reduceMul, Nat.reduceBEq, reduceIte, he0, le0, qe0, pe0, he1, le1, qe1, pe1, hxt0t1, hxt1t0, wt0t1, gi9, i9, c17, hv18]) ) (by simp -implicitDefEqProofs only [go_sem, Nat.reduceEqDiff, Nat.reduceAdd, Nat.reduceLT, Nat.reduceLeDiff, Nat.reduceMul, Nat.reduceBEq, reduceIte, he0, le0, qe0, pe0, he1, le1, qe1, pe1, hxt0t1, hxt1t0, wt0t1, gi9, i9, c17, hv18]) rfl (by simp -implicitDefEqProofs only [go_sem, Nat.reduceEqDiff, Nat.reduceAdd, Nat.reduceLT, Nat.reduceLeDiff, Nat.reduceMul, Nat.reduceBEq, reduceIte, he0, le0, qe0, pe0, he1, le1, qe1, pe1, hxt0t1, hxt1t0, wt0t1, gi9, i9, c17, hv18]) (by simp -implicitDefEqProofs only [go_sem, Nat.reduceEqDiff, Nat.reduceAdd, Nat.reduceLT, Nat.reduceLeDiff, Nat.reduceMul, Nat.reduceBEq, reduceIte, he0, le0, qe0, pe0, he1, le1, qe1, pe1, hxt0t1, hxt1t0, wt0t1, gi9, i9, c17, hv18]) (by simp -implicitDefEqProofs only [go_sem, Nat.reduceEqDiff, Nat.reduceAdd, Nat.reduceLT, Nat.reduceLeDiff, Nat.reduceMul, Nat.reduceBEq, reduceIte]) ?_
      rcases ib h with ⟨c21, h⟩ | ⟨c21, h⟩
      · cases h
        simp -implicitDefEqProofs only [go_sem, Nat.reduceEqDiff, Nat.reduceAdd, Nat.reduceLT, Nat.reduceLeDiff, Nat.reduceMul, Nat.reduceBEq, reduceIte, he0, le0, qe0, pe0, he1, le1, qe1, pe1, hxt0t1, hxt1t0, wt0t1, gi9, i9, c17, hv18, c21]
        rw [hR9]
        refine ⟨rfl, ?_⟩
        intro hr
        subst hr
        subst hQ
        simp -implicitDefEqProofs only [go_sem, Nat.reduceEqDiff, Nat.reduceAdd, Nat.reduceLT, Nat.reduceLeDiff, Nat.reduceMul, Nat.reduceBEq, reduceIte, he0, le0, qe0, pe0, he1, le1, qe1, pe1, hxt0t1, hxt1t0, wt0t1, gi9, i9, c17, hv18, c21, Try.results103]
      · simp -implicitDefEqProofs only [go_sem, Nat.reduceEqDiff, Nat.reduceAdd, Nat.reduceLT, Nat.reduceLeDiff, Nat.reduceMul, Nat.reduceBEq, reduceIte, he0, le0, qe0, pe0, he1, le1, qe1, pe1, hxt0t1, hxt1t0, wt0t1, gi9, i9, c17, hv18, c21]
        obtain ⟨v22, hz, h⟩ := bs h
        obtain ⟨R23, hR23⟩ : ∃ R : St → Prop, R = fun s => s.G = fillKey (fillKey (fillKey (fillKey (fillKey (fillKey (cut d G) e0 t0 [.box [.p (.bool r20.2.f0)]]) e1 t1 [.arr (a2.map cTRat)]) (d + 1) 8 [.box [.p (.int .i64 0), .p (.int .i64 0)]]) (d + 1) 10 [.box [.p (.int .i64 v12), .p (.int .i64 v13)]]) (d + 1) 12 [.box [.p (.int .i64 v18.f0), .p (.sl (v18.f1.f0.map cTRat)), .p (.int .i64 v18.f1.f1.f0), .p (.int .i64 v18.f1.f1.f1)]]) (d + 1) 13 [.box [.p (.int .i64 v22), .p (.int .i64 r20.1.f1)]] ∧ s.F 0 = .bp (e0, t0, 0) 0 ∧ s.F 1 = .p (.sl (a1.map cTRow)) ∧ s.F 2 = .arr (e1, t1, 0) a2.length 2 ∧ s.F 3 = .p (.bool a3) ∧ s.F 8 = .bp (d + 1, 8, 0) 0 ∧ s.F 10 = .bp (d + 1, 10, 0) 0 ∧ s.F 11 = .p (.int .i64 v10) ∧ s.F 13 = .bp (d + 1, 13, 0) 0 ∧ s.F 15 = .p (.sl (a1.map cTRow)) ∧ s.F 16 = .p (.int .i64 (a1.length : Int)) ∧ s.F 17 = .p (.int .i64 v10) ∧ True := ⟨_, rfl⟩
        refine cutG R23 ?_ ?_
        · replace h := hz
          rcases ib h with ⟨c24, h⟩ | ⟨c24, h⟩
          · cases h
            simp -implicitDefEqProofs only [go_sem, Nat.reduceEqDiff, Nat.reduceAdd, Nat.reduceLT, Nat.reduceLeDiff, Nat.reduceMul, Nat.reduceBEq, reduceIte, he0, le0, qe0, pe0, he1, le1, qe1, pe1, hxt0t1, hxt1t0, wt0t1, gi9, i9, c17, hv18, c21, c24]
            rw [hR23]
            simp -implicitDefEqProofs only [go_sem, Nat.reduceEqDiff, Nat.reduceAdd, Nat.reduceLT, Nat.reduceLeDiff, Nat.reduceMul, Nat.reduceBEq, reduceIte, he0, le0, qe0, pe0, he1, le1, qe1, pe1, hxt0t1, hxt1t0, wt0t1, gi9, i9, c17, hv18, c21, c24]
          · cases h
            simp -implicitDefEqProofs only [go_sem, Nat.reduceEqDiff, Nat.reduceAdd, Nat.reduceLT, Nat.reduceLeDiff, Nat.reduceMul, Nat.reduceBEq, reduceIte, he0, le0, qe0, pe0, he1, le1, qe1, pe1, hxt0t1, hxt1t0, wt0t1, gi9, i9, c17, hv18, c21, c24]
            rw [hR23]
            simp -implicitDefEqProofs only [go_sem, Nat.reduceEqDiff, Nat.reduceAdd, Nat.reduceLT, Nat.reduceLeDiff, Nat.reduceMul, Nat.reduceBEq, reduceIte, he0, le0, qe0, pe0, he1, le1, qe1, pe1, hxt0t1, hxt1t0, wt0t1, gi9, i9, c17, hv18, c21, c24]
        · replace h := h; clear hz
          rintro s i
          rw [hR23] at i
          obtain ⟨gi25, i25⟩ := i
          clear hR23
          try dsimp only at h
          obtain ⟨r26, hr26, h⟩ := bs h
          simp -implicitDefEqProofs only [go_sem, Nat.reduceEqDiff, Nat.reduceAdd, Nat.reduceLT, Nat.reduceLeDiff, Nat.reduceMul, Nat.reduceBEq, reduceIte, he0, le0, qe0, pe0, he1, le1, qe1, pe1, hxt0t1, hxt1t0, wt0t1, gi9, i9, c17, hv18, c21, gi25, i25]
          refine call_frz (r' := .p (.int .i64 r26)) (m_rat_Compare_ev (⟨v22, r20.1.f1⟩ : TRat) (⟨v12, v13⟩ : TRat) r26 hr26 (d + 1) empty) (by simp -implicitDefEqProofs only [go_sem, Nat.reduceEqDiff, Nat.reduceAdd, Nat.reduceLT, Nat.reduceLeDiff, Nat.reduceMul, Nat.reduceBEq, reduceIte, he0, le0, qe0, pe0, he1, le1, qe1, pe1, hxt0t1, hxt1t0, wt0t1, gi9, i9, c17, hv18, c21, gi25, i25]) rfl (by simp -implicitDefEqProofs only [go_sem, Nat.reduceEqDiff, Nat.reduceAdd, Nat.reduceLT, Nat.reduceLeDiff, Nat.reduceMul, Nat.reduceBEq, reduceIte]) (by simp -implicitDefEqProofs only [go_sem, Nat.reduceEqDiff, Nat.reduceAdd, Nat.reduceLT, Nat.reduceLeDiff, Nat.reduceMul, Nat.reduceBEq, reduceIte]) ?_ rfl rfl
          simp -implicitDefEqProofs only [go_sem, Nat.reduceEqDiff, Nat.reduceAdd, Nat.reduceLT, Nat.reduceLeDiff, Nat.reduceMul, Nat.reduceBEq, reduceIte, he0, le0, qe0, pe0, he1, le1, qe1, pe1, hxt0t1, hxt1t0, wt0t1, gi9, i9, c17, hv18, c21, gi25, i25]
          obtain ⟨v27, hz, h⟩ := bs h
          obtain ⟨R28, hR28⟩ : ∃ R : St → Prop, R = fun s => s.G = fillKey (fillKey (fillKey (fillKey (fillKey (fillKey (cut d G) e0 t0 [.box [.p (.bool r20.2.f0)]]) e1 t1 [.arr (a2.map cTRat)]) (d + 1) 8 [.box [.p (.int .i64 0), .p (.int .i64 0)]]) (d + 1) 10 [.box [.p (.int .i64 v12), .p (.int .i64 v13)]]) (d + 1) 12 [.box [.p (.int .i64 v18.f0), .p (.sl (v18.f1.f0.map cTRat)), .p (.int .i64 v18.f1.f1.f0), .p (.int .i64 v18.f1.f1.f1)]]) (d + 1) 13 [.box [.p (.int .i64 v22), .p (.int .i64 r20.1.f1)]] ∧ s.F 0 = .bp (e0, t0, 0) 0 ∧ s.F 1 = .p (.sl (a1.map cTRow)) ∧ s.F 2 = .arr (e1, t1, 0) a2.length 2 ∧ s.F 3 = .p (.bool a3) ∧ s.F 8 = .bp (d + 1, 8, 0) 0 ∧ s.F 10 = .bp (d + 1, 10, 0) 0 ∧ s.F 13 = .bp (d + 1, 13, 0) 0 ∧ s.F 15 = .p (.sl (a1.map cTRow)) ∧ s.F 16 = .p (.int .i64 (a1.length : Int)) ∧ s.F 17 = .p (.int .i64 v10) ∧ s.F 59 = .p (.bool v27) ∧ True := ⟨_, rfl⟩
          refine cutR R28 ?_ ?_
          · replace h := hz
            rcases ib h with ⟨c29, h⟩ | ⟨c29, h⟩
            · cases h
              simp -implicitDefEqProofs only [go_sem, Nat.reduceEqDiff, Nat.reduceAdd, Nat.reduceLT, Nat.reduceLeDiff, Nat.reduceMul, Nat.reduceBEq, reduceIte, he0, le0, qe0, pe0, he1, le1, qe1, pe1, hxt0t1, hxt1t0, wt0t1, gi9, i9, c17, hv18, c21, gi25, i25, c29]
              rw [hR28]
              simp -implicitDefEqProofs only [go_sem, Nat.reduceEqDiff, Nat.reduceAdd, Nat.reduceLT, Nat.reduceLeDiff, Nat.reduceMul, Nat.reduceBEq, reduceIte, he0, le0, qe0, pe0, he1, le1, qe1, pe1, hxt0t1, hxt1t0, wt0t1, gi9, i9, c17, hv18, c21, gi25, i25, c29]
            · rcases ib h with ⟨c30, h⟩ | ⟨c30, h⟩
              · rcases ib h with ⟨c31, h⟩ | ⟨c31, h⟩
                · cases h
                  simp -implicitDefEqProofs only [go_sem, Nat.reduceEqDiff, Nat.reduceAdd, Nat.reduceLT, Nat.reduceLeDiff, Nat.reduceMul, Nat.reduceBEq, reduceIte, he0, le0, qe0, pe0, he1, le1, qe1, pe1, hxt0t1, hxt1t0, wt0t1, gi9, i9, c17, hv18, c21, gi25, i25, c29, c30, c31]
                  rw [hR28]
                  simp -implicitDefEqProofs only [go_sem, Nat.reduceEqDiff, Nat.reduceAdd, Nat.reduceLT, Nat.reduceLeDiff, Nat.reduceMul, Nat.reduceBEq, reduceIte, he0, le0, qe0, pe0, he1, le1, qe1, pe1, hxt0t1, hxt1t0, wt0t1, gi9, i9, c17, hv18, c21, gi25, i25, c29, c30, c31]
                · cases h
                  simp -implicitDefEqProofs only [go_sem, Nat.reduceEqDiff, Nat.reduceAdd, Nat.reduceLT, Nat.reduceLeDiff, Nat.reduceMul, Nat.reduceBEq, reduceIte, he0, le0, qe0, pe0, he1, le1, qe1, pe1, hxt0t1, hxt1t0, wt0t1, gi9, i9, c17, hv18, c21, gi25, i25, c29, c30, c31]
                  rw [hR28]
                  simp -implicitDefEqProofs only [go_sem, Nat.reduceEqDiff, Nat.reduceAdd, Nat.reduceLT, Nat.reduceLeDiff, Nat.reduceMul, Nat.reduceBEq, reduceIte, he0, le0, qe0, pe0, he1, le1, qe1, pe1, hxt0t1, hxt1t0, wt0t1, gi9, i9, c17, hv18, c21, gi25, i25, c29, c30, c31]
              · cases h
                simp -implicitDefEqProofs only [go_sem, Nat.reduceEqDiff, Nat.reduceAdd, Nat.reduceLT, Nat.reduceLeDiff, Nat.reduceMul, Nat.reduceBEq, reduceIte, he0, le0, qe0, pe0, he1, le1, qe1, pe1, hxt0t1, hxt1t0, wt0t1, gi9, i9, c17, hv18, c21, gi25, i25, c29, c30]
                rw [hR28]
                simp -implicitDefEqProofs only [go_sem, Nat.reduceEqDiff, Nat.reduceAdd, Nat.reduceLT, Nat.reduceLeDiff, Nat.reduceMul, Nat.reduceBEq, reduceIte, he0, le0, qe0, pe0, he1, le1, qe1, pe1, hxt0t1, hxt1t0, wt0t1, gi9, i9, c17, hv18, c21, gi25, i25, c29, c30]
          · replace h := h; clear hz
            rintro s i
            rw [hR28] at i
            obtain ⟨gi32, i32⟩ := i
            clear hR28
            try dsimp only at h
            simp -implicitDefEqProofs only [go_sem, Nat.reduceEqDiff, Nat.reduceAdd, Nat.reduceLT, Nat.reduceLeDiff, Nat.reduceMul, Nat.reduceBEq, reduceIte, he0, le0, qe0, pe0, he1, le1, qe1, pe1, hxt0t1, hxt1t0, wt0t1, gi9, i9, c17, hv18, c21, gi25, i25, gi32, i32]
            obtain ⟨⟨v33, v34⟩, hz, h⟩ := bs h
            obtain ⟨R35, hR35⟩ : ∃ R : St → Prop, R = fun s => s.G = fillKey (fillKey (fillKey (fillKey (fillKey (fillKey (cut d G) e0 t0 [.box [.p (.bool r20.2.f0)]]) e1 t1 [.arr (a2.map cTRat)]) (d + 1) 8 [.box [.p (.int .i64 0), .p (.int .i64 0)]]) (d + 1) 10 [.box [.p (.int .i64 v33), .p (.int .i64 v34)]]) (d + 1) 12 [.box [.p (.int .i64 v18.f0), .p (.sl (v18.f1.f0.map cTRat)), .p (.int .i64 v18.f1.f1.f0), .p (.int .i64 v18.f1.f1.f1)]]) (d + 1) 13 [.box [.p (.int .i64 v22), .p (.int .i64 r20.1.f1)]] ∧ s.F 0 = .bp (e0, t0, 0) 0 ∧ s.F 1 = .p (.sl (a1.map cTRow)) ∧ s.F 2 = .arr (e1, t1, 0) a2.length 2 ∧ s.F 3 = .p (.bool a3) ∧ s.F 8 = .bp (d + 1, 8, 0) 0 ∧ s.F 10 = .bp (d + 1, 10, 0) 0 ∧ s.F 15 = .p (.sl (a1.map cTRow)) ∧ s.F 16 = .p (.int .i64 (a1.length : Int)) ∧ s.F 17 = .p (.int .i64 v10) ∧ True := ⟨_, rfl⟩
            refine cutG R35 ?_ ?_
            · replace h := hz
              rcases ib h with ⟨c36, h⟩ | ⟨c36, h⟩
              · cases h
                simp -implicitDefEqProofs only [go_sem, Nat.reduceEqDiff, Nat.reduceAdd, Nat.reduceLT, Nat.reduceLeDiff, Nat.reduceMul, Nat.reduceBEq, reduceIte, he0, le0, qe0, pe0, he1, le1, qe1, pe1, hxt0t1, hxt1t0, wt0t1, gi9, i9, c17, hv18, c21, gi25, i25, gi32, i32, c36]
                rw [hR35]
                simp -implicitDefEqProofs only [go_sem, Nat.reduceEqDiff, Nat.reduceAdd, Nat.reduceLT, Nat.reduceLeDiff, Nat.reduceMul, Nat.reduceBEq, reduceIte, he0, le0, qe0, pe0, he1, le1, qe1, pe1, hxt0t1, hxt1t0, wt0t1, gi9, i9, c17, hv18, c21, gi25, i25, gi32, i32, c36]
              · cases h
                simp -implicitDefEqProofs only [go_sem, Nat.reduceEqDiff, Nat.reduceAdd, Nat.reduceLT, Nat.reduceLeDiff, Nat.reduceMul, Nat.reduceBEq, reduceIte, he0, le0, qe0, pe0, he1, le1, qe1, pe1, hxt0t1, hxt1t0, wt0t1, gi9, i9, c17, hv18, c21, gi25, i25, gi32, i32, c36]
                rw [hR35]
                simp -implicitDefEqProofs only [go_sem, Nat.reduceEqDiff, Nat.reduceAdd, Nat.reduceLT, Nat.reduceLeDiff, Nat.reduceMul, Nat.reduceBEq, reduceIte, he0, le0, qe0, pe0, he1, le1, qe1, pe1, hxt0t1, hxt1t0, wt0t1, gi9, i9, c17, hv18, c21, gi25, i25, gi32, i32, c36]
            · replace h := h; clear hz
              rintro s i
              rw [hR35] at i
              obtain ⟨gi37, i37⟩ := i
              clear hR35
              try dsimp only at h
              cases h
              simp -implicitDefEqProofs only [go_sem, Nat.reduceEqDiff, Nat.reduceAdd, Nat.reduceLT, Nat.reduceLeDiff, Nat.reduceMul, Nat.reduceBEq, reduceIte, he0, le0, qe0, pe0, he1, le1, qe1, pe1, hxt0t1, hxt1t0, wt0t1, gi9, i9, c17, hv18, c21, gi25, i25, gi32, i32, gi37, i37]
              rw [hI9]
              simp -implicitDefEqProofs only [go_sem, Nat.reduceEqDiff, Nat.reduceAdd, Nat.reduceLT, Nat.reduceLeDiff, Nat.reduceMul, Nat.reduceBEq, reduceIte, he0, le0, qe0, pe0, he1, le1, qe1, pe1, hxt0t1, hxt1t0, wt0t1, gi9, i9, c17, hv18, c21, gi25, i25, gi32, i32, gi37, i37]
    · cases h
      simp -implicitDefEqProofs only [go_sem, Nat.reduceEqDiff, Nat.reduceAdd, Nat.reduceLT, Nat.reduceLeDiff, Nat.reduceMul, Nat.reduceBEq, reduceIte, he0, le0, qe0, pe0, he1, le1, qe1, pe1, hxt0t1, hxt1t0, wt0t1, gi9, i9, c17]
      rw [hR9]
      first | refine ⟨rfl, ?_⟩ | refine ⟨(), rfl, ?_⟩
      simp -implicitDefEqProofs only [go_sem, Nat.reduceEqDiff, Nat.reduceAdd, Nat.reduceLT, Nat.reduceLeDiff, Nat.reduceMul, Nat.reduceBEq, reduceIte, he0, le0, qe0, pe0, he1, le1, qe1, pe1, hxt0t1, hxt1t0, wt0t1, gi9, i9, c17]
  · clear hL9 hI9
    intro e s hr9
    rw [hR9] at hr9
    clear hR9
    rcases z9 with ⟨v14, v15, v16⟩ | r
    · try dsimp only at h hr9
      obtain ⟨rfl, gi38, i38⟩ := hr9
      cases h
      subst hQ
      simp -implicitDefEqProofs only [go_sem, Nat.reduceEqDiff, Nat.reduceAdd, Nat.reduceLT, Nat.reduceLeDiff, Nat.reduceMul, Nat.reduceBEq, reduceIte, he0, le0, qe0, pe0, he1, le1, qe1, pe1, hxt0t1, hxt1t0, wt0t1, gi38, i38, Try.results103]
    · try dsimp only at h hr9
      obtain ⟨rfl, hr9⟩ := hr9
      cases h
      try simp -implicitDefEqProofs only [go_sem, Nat.reduceEqDiff, Nat.reduceAdd, Nat.reduceLT, Nat.reduceLeDiff, Nat.reduceMul, Nat.reduceBEq, reduceIte]
      exact hr9 rfl
theorem m_bound_engine_choose_ev (a0 : TBound_engine) (a1 : TBound_stage) (a2 : List TRat) (r0 : TRat × TBound_engine × (List TRat)) (h : m_bound_engine_choose a0 a1 a2 = some r0) (d : Nat) (G : Heap) (e0 t0 : Nat) (he0 : e0 ≤ d) (hGt0 : G e0 t0 = [.box [.p (.bool a0.f0)]]) (e1 t1 : Nat) (he1 : e1 ≤ d) (hGt1 : G e1 t1 = [.arr (a2.map cTRat)]) (hxt0t1 : (e0 = e1 ∧ t0 = t1) = False) : Tel Try.prog TB d 73 [.bp (e0, t0, 0) 0, .agg ((cTBound_stage a1).map .p), .arr (e1, t1, 0) a2.length 2] G (.agg ((cTRat r0.1).map .p)) (fillKey (fillKey (G) e0 t0 ([.box [.p (.bool r0.2.1.f0)]])) e1 t1 ([.arr (r0.2.2.map cTRat)])) := by
  unfold m_bound_engine_choose at h
  refine Tel.intro mix Try.func73 rfl (Nat.le_of_ble_eq_true rfl) {openAt := fun t => t == 18 || t == 26 || t == 53 || t == 63 || t == 70 || t == 82, frzAt := fun t => t == 4 || t == 50 || t == 60 || t == 67 || t == 79} (by kernel_rfl) (by kernel_rfl) ?_
  have le0 : (e0 ≤ d + 1) = True := by simp; omega
  have qe0 : (e0 = d + 1) = False := by simp; omega
  have pe0 : (d + 1 = e0) = False := by simp; omega
  have le1 : (e1 ≤ d + 1) = True := by simp; omega
  have qe1 : (e1 = d + 1) = False := by simp; omega
  have pe1 : (d + 1 = e1) = False := by simp; omega
  have hxt1t0 : (e1 = e0 ∧ t1 = t0) = False := by rw [← hxt0t1]; simp only [eq_comm]
  have wt0t1 := fk_swap (a := e1) (b := t1) (a' := e0) (b' := t0) (fun x => by rw [← hxt1t0]; exact x)
  refine gwp_heap (H' := fillKey (fillKey (cut d G) e0 t0 [.box [.p (.bool a0.f0)]]) e1 t1 [.arr (a2.map cTRat)]) ?_ ?_
  · rw [fill_self (B := cut d G) (a := e0) (b := t0) (by rw [cut_app, if_pos he0]; exact hGt0), fill_self (B := cut d G) (a := e1) (b := t1) (by rw [cut_app, if_pos he1]; exact hGt1)]
  generalize hQ : callPost _ _ _ _ _ = Q
  obtain ⟨r1, hr1, h⟩ := bs h
  simp -implicitDefEqProofs only [go_sem, Nat.reduceEqDiff, Nat.reduceAdd, Nat.reduceLT, Nat.reduceLeDiff, Nat.reduceMul, Nat.reduceBEq, reduceIte, he0, le0, qe0, pe0, he1, le1, qe1, pe1, hxt0t1, hxt1t0, wt0t1]
  refine call_open0 (t0 := 999) (r := .tup [.agg [.p (.int .i64 r1.1.f0), .p (.int .i64 r1.1.f1)], .p (.bool r1.2.1)]) (m_bound_engine_edge_ev a0 a1.f0 a2 true r1 hr1 (d + 1) _ e0 t0 (Nat.le_succ_of_le he0) (by simp -implicitDefEqProofs only [go_sem, Nat.reduceEqDiff, Nat.reduceAdd, Nat.reduceLT, Nat.reduceLeDiff, Nat.reduceMul, Nat.reduceBEq, reduceIte, he0, le0, qe0, pe0, he1, le1, qe1, pe1, hxt0t1, hxt1t0, wt0t1])  e1 t1 (Nat.le_succ_of_le he1) (by simp -implicitDefEqProofs only [go_sem, Nat.reduceEqDiff, Nat.reduceAdd, Nat.reduceLT, Nat.reduceLeDiff, Nat.reduceMul, Nat.reduceBEq, reduceIte, he0, le0, qe0, pe0, he1, le1, qe1, pe1, hxt0t1, hxt1t0, wt0t1])  hxt0t1) (by simp -implicitDefEqProofs only [go_sem, Nat.reduceEqDiff, Nat.reduceAdd, Nat.reduceLT, Nat.reduceLeDiff, Nat.reduceMul, Nat.reduceBEq, reduceIte, he0, le0, qe0, pe0, he1, le1, qe1, pe1, hxt0t1, hxt1t0, wt0t1]) rfl (by simp -implicitDefEqProofs only [go_sem, Nat.reduceEqDiff, Nat.reduceAdd, Nat.reduceLT, Nat.reduceLeDiff, Nat.reduceMul, Nat.reduceBEq, reduceIte, he0, le0, qe0, pe0, he1, le1, qe1, pe1, hxt0t1, hxt1t0, wt0t1]) (by simp -implicitDefEqProofs only [go_sem, Nat.reduceEqDiff, Nat.reduceAdd, Nat.reduceLT, Nat.reduceLeDiff, Nat.reduceMul, Nat.reduceBEq, reduceIte, he0, le0, qe0, pe0, he1, le1, qe1, pe1, hxt0t1, hxt1t0, wt0t1]) (by simp -implicitDefEqProofs only [go_sem, Nat.reduceEqDiff, Nat.reduceAdd, Nat.reduceLT, Nat.reduceLeDiff, Nat.reduceMul, Nat.reduceBEq, reduceIte]) ?_
  have cl2 : (r1.2.2.2).length = ((a2 : List TRat)).length := by have := len_edge hr1; (try simp only [List.length_set] at this); first | exact this | exact this.trans rfl
  have cv2 := arV_len (c := cTRat) (κ := (e1, t1, 0)) (n := 2) cl2
  have ce2 := nil_len cl2
  obtain ⟨r3, hr3, h⟩ := bs h
  simp -implicitDefEqProofs only [go_sem, Nat.reduceEqDiff, Nat.reduceAdd, Nat.reduceLT, Nat.reduceLeDiff, Nat.reduceMul, Nat.reduceBEq, reduceIte, he0, le0, qe0, pe0, he1, le1, qe1, pe1, hxt0t1, hxt1t0, wt0t1, cl2, cv2, ce2]
  refine call_open0 (t0 := 999) (r := .tup [.agg [.p (.int .i64 r3.1.f0), .p (.int .i64 r3.1.f1)], .p (.bool r3.2.1)]) (m_bound_engine_edge_ev r1.2.2.1 a1.f1 r1.2.2.2 false r3 hr3 (d + 1) _ e0 t0 (Nat.le_succ_of_le he0) (by simp -implicitDefEqProofs only [go_sem, Nat.reduceEqDiff, Nat.reduceAdd, Nat.reduceLT, Nat.reduceLeDiff, Nat.reduceMul, Nat.reduceBEq, reduceIte, he0, le0, qe0, pe0, he1, le1, qe1, pe1, hxt0t1, hxt1t0, wt0t1, cl2, cv2, ce2])  e1 t1 (Nat.le_succ_of_le he1) (by simp -implicitDefEqProofs only [go_sem, Nat.reduceEqDiff, Nat.reduceAdd, Nat.reduceLT, Nat.reduceLeDiff, Nat.reduceMul, Nat.reduceBEq, reduceIte, he0, le0, qe0, pe0, he1, le1, qe1, pe1, hxt0t1, hxt1t0, wt0t1, cl2, cv2, ce2])  hxt0t1) (by simp -implicitDefEqProofs only [go_sem, Nat.reduceEqDiff, Nat.reduceAdd, Nat.reduceLT, Nat.reduceLeDiff, Nat.reduceMul, Nat.reduceBEq, reduceIte, he0, le0, qe0, pe0, he1, le1, qe1, pe1, hxt0t1, hxt1t0, wt0t1, cl2, cv2, ce2]) rfl (by simp -implicitDefEqProofs only [go_sem, Nat.reduceEqDiff, Nat.reduceAdd, Nat.reduceLT, Nat.reduceLeDiff, Nat.reduceMul, Nat.reduceBEq, reduceIte, he0, le0, qe0, pe0, he1, le1, qe1, pe1, hxt0t1, hxt1t0, wt0t1, cl2, cv2, ce2]) (by simp -implicitDefEqProofs only [go_sem, Nat.reduceEqDiff, Nat.reduceAdd, Nat.reduceLT, Nat.reduceLeDiff, Nat.reduceMul, Nat.reduceBEq, reduceIte, he0, le0, qe0, pe0, he1, le1, qe1, pe1, hxt0t1, hxt1t0, wt0t1, cl2, cv2, ce2]) (by simp -implicitDefEqProofs only [go_sem, Nat.reduceEqDiff, Nat.reduceAdd, Nat.reduceLT, Nat.reduceLeDiff, Nat.reduceMul, Nat.reduceBEq, reduceIte]) ?_
  have cl4 : (r3.2.2.2).length = ((a2 : List TRat)).length := by have := len_edge hr3; (try simp only [List.length_set] at this); first | exact this | exact this.trans cl2
  have cv4 := arV_len (c := cTRat) (κ := (e1, t1, 0)) (n := 2) cl4
  have ce4 := nil_len cl4
  simp -implicitDefEqProofs only [go_sem, Nat.reduceEqDiff, Nat.reduceAdd, Nat.reduceLT, Nat.reduceLeDiff, Nat.reduceMul, Nat.reduceBEq, reduceIte, he0, le0, qe0, pe0, he1, le1, qe1, pe1, hxt0t1, hxt1t0, wt0t1, cl2, cv2, ce2, cl4, cv4, ce4]
  obtain ⟨v5, hz, h⟩ := bs h
  obtain ⟨R6, hR6⟩ : ∃ R : St → Prop, R = fun s => s.G = fillKey (fillKey (fillKey (fillKey (fillKey (fillKey (cut d G) e0 t0 [.box [.p (.bool r3.2.2.1.f0)]]) e1 t1 [.arr (r3.2.2.2.map cTRat)]) (d + 1) 6 [.box [.p (.int .i64 0), .p (.int .i64 0)]]) (d + 1) 7 [.box [.p (.int .i64 r1.1.f0), .p (.int .i64 r1.1.f1)]]) (d + 1) 9 [.box [.p (.int .i64 r3.1.f0), .p (.int .i64 r3.1.f1)]]) (d + 1) 11 [.box [.p (.int .i64 1), .p (.int .i64 1)]] ∧ s.F 0 = .bp (e0, t0, 0) 0 ∧ s.F 6 = .bp (d + 1, 6, 0) 0 ∧ s.F 7 = .bp (d + 1, 7, 0) 0 ∧ s.F 8 = .p (.bool r1.2.1) ∧ s.F 9 = .bp (d + 1, 9, 0) 0 ∧ s.F 10 = .p (.bool r3.2.1) ∧ s.F 11 = .bp (d + 1, 11, 0) 0 ∧ s.F 30 = .p (.bool v5) ∧ True := ⟨_, rfl⟩
  refine cutR R6 ?_ ?_
  · replace h := hz
    rcases ib h with ⟨c7, h⟩ | ⟨c7, h⟩
    · cases h
      simp -implicitDefEqProofs only [go_sem, Nat.reduceEqDiff, Nat.reduceAdd, Nat.reduceLT, Nat.reduceLeDiff, Nat.reduceMul, Nat.reduceBEq, reduceIte, he0, le0, qe0, pe0, he1, le1, qe1, pe1, hxt0t1, hxt1t0, wt0t1, cl2, cv2, ce2, cl4, cv4, ce4, c7]
      rw [hR6]
      simp -implicitDefEqProofs only [go_sem, Nat.reduceEqDiff, Nat.reduceAdd, Nat.reduceLT, Nat.reduceLeDiff, Nat.reduceMul, Nat.reduceBEq, reduceIte, he0, le0, qe0, pe0, he1, le1, qe1, pe1, hxt0t1, hxt1t0, wt0t1, cl2, cv2, ce2, cl4, cv4, ce4, c7]
    · rcases ib h with ⟨c8, h⟩ | ⟨c8, h⟩
      · cases h
        simp -implicitDefEqProofs only [go_sem, Nat.reduceEqDiff, Nat.reduceAdd, Nat.reduceLT, Nat.reduceLeDiff, Nat.reduceMul, Nat.reduceBEq, reduceIte, he0, le0, qe0, pe0, he1, le1, qe1, pe1, hxt0t1, hxt1t0, wt0t1, cl2, cv2, ce2, cl4, cv4, ce4, c7, c8]
        rw [hR6]
        simp -implicitDefEqProofs only [go_sem, Nat.reduceEqDiff, Nat.reduceAdd, Nat.reduceLT, Nat.reduceLeDiff, Nat.reduceMul, Nat.reduceBEq, reduceIte, he0, le0, qe0, pe0, he1, le1, qe1, pe1, hxt0t1, hxt1t0, wt0t1, cl2, cv2, ce2, cl4, cv4, ce4, c7, c8]
      · cases h
        simp -implicitDefEqProofs only [go_sem, Nat.reduceEqDiff, Nat.reduceAdd, Nat.reduceLT, Nat.reduceLeDiff, Nat.reduceMul, Nat.reduceBEq, reduceIte, he0, le0, qe0, pe0, he1, le1, qe1, pe1, hxt0t1, hxt1t0, wt0t1, cl2, cv2, ce2, cl4, cv4, ce4, c7, c8]
        rw [hR6]
        simp -implicitDefEqProofs only [go_sem, Nat.reduceEqDiff, Nat.reduceAdd, Nat.reduceLT, Nat.reduceLeDiff, Nat.reduceMul, Nat.reduceBEq, reduceIte, he0, le0, qe0, pe0, he1, le1, qe1, pe1, hxt0t1, hxt1t0, wt0t1, cl2, cv2, ce2, cl4, cv4, ce4, c7, c8]
  · replace h := h; clear hz
    rintro s i
    rw [hR6] at i
    obtain ⟨gi9, i9⟩ := i
    clear hR6
    try dsimp only at h
    rcases ib h with ⟨c10, h⟩ | ⟨c10, h⟩
    · cases h
      subst hQ
      simp -implicitDefEqProofs only [go_sem, Nat.reduceEqDiff, Nat.reduceAdd, Nat.reduceLT, Nat.reduceLeDiff, Nat.reduceMul, Nat.reduceBEq, reduceIte, he0, le0, qe0, pe0, he1, le1, qe1, pe1, hxt0t1, hxt1t0, wt0t1, cl2, cv2, ce2, cl4, cv4, ce4, gi9, i9, c10, Try.results73]
    · rcases ib h with ⟨c11, h⟩ | ⟨c11, h⟩
      · obtain ⟨r12, hr12, h⟩ := bs h
        simp -implicitDefEqProofs only [go_sem, Nat.reduceEqDiff, Nat.reduceAdd, Nat.reduceLT, Nat.reduceLeDiff, Nat.reduceMul, Nat.reduceBEq, reduceIte, he0, le0, qe0, pe0, he1, le1, qe1, pe1, hxt0t1, hxt1t0, wt0t1, cl2, cv2, ce2, cl4, cv4, ce4, gi9, i9, c10, c11]
        refine call_frz (r' := .tup [.agg [.p (.int .i64 r12.1.f0), .p (.int .i64 r12.1.f1)], .p (.int .i64 r12.2)]) (m_rat_Add_ev r1.1 (⟨1, 1⟩ : TRat) r12 hr12 (d + 1) empty) (by simp -implicitDefEqProofs only [go_sem, Nat.reduceEqDiff, Nat.reduceAdd, Nat.reduceLT, Nat.reduceLeDiff, Nat.reduceMul, Nat.reduceBEq, reduceIte, he0, le0, qe0, pe0, he1, le1, qe1, pe1, hxt0t1, hxt1t0, wt0t1, cl2, cv2, ce2, cl4, cv4, ce4, gi9, i9, c10, c11]) rfl (by simp -implicitDefEqProofs only [go_sem, Nat.reduceEqDiff, Nat.reduceAdd, Nat.reduceLT, Nat.reduceLeDiff, Nat.reduceMul, Nat.reduceBEq, reduceIte]) (by simp -implicitDefEqProofs only [go_sem, Nat.reduceEqDiff, Nat.reduceAdd, Nat.reduceLT, Nat.reduceLeDiff, Nat.reduceMul, Nat.reduceBEq, reduceIte]) ?_ rfl rfl
        obtain ⟨r13, hr13, h⟩ := bs h
        simp -implicitDefEqProofs only [go_sem, Nat.reduceEqDiff, Nat.reduceAdd, Nat.reduceLT, Nat.reduceLeDiff, Nat.reduceMul, Nat.reduceBEq, reduceIte, he0, le0, qe0, pe0, he1, le1, qe1, pe1, hxt0t1, hxt1t0, wt0t1, cl2, cv2, ce2, cl4, cv4, ce4, gi9, i9, c10, c11]
        refine call_open0 (t0 := 999) (r := .agg [.p (.int .i64 r13.1.f0), .p (.int .i64 r13.1.f1)]) (m_bound_engine_rat_ev r3.2.2.1 r12.1 r12.2 r13 hr13 (d + 1) _ e0 t0 (Nat.le_succ_of_le he0) (by simp -implicitDefEqProofs only [go_sem, Nat.reduceEqDiff, Nat.reduceAdd, Nat.reduceLT, Nat.reduceLeDiff, Nat.reduceMul, Nat.reduceBEq, reduceIte, he0, le0, qe0, pe0, he1, le1, qe1, pe1, hxt0t1, hxt1t0, wt0t1, cl2, cv2, ce2, cl4, cv4, ce4, gi9, i9, c10, c11]) ) (by simp -implicitDefEqProofs only [go_sem, Nat.reduceEqDiff, Nat.reduceAdd, Nat.reduceLT, Nat.reduceLeDiff, Nat.reduceMul, Nat.reduceBEq, reduceIte, he0, le0, qe0, pe0, he1, le1, qe1, pe1, hxt0t1, hxt1t0, wt0t1, cl2, cv2, ce2, cl4, cv4, ce4, gi9, i9, c10, c11]) rfl (by simp -implicitDefEqProofs only [go_sem, Nat.reduceEqDiff, Nat.reduceAdd, Nat.reduceLT, Nat.reduceLeDiff, Nat.reduceMul, Nat.reduceBEq, reduceIte, he0, le0, qe0, pe0, he1, le1, qe1, pe1, hxt0t1, hxt1t0, wt0t1, cl2, cv2, ce2, cl4, cv4, ce4, gi9, i9, c10, c11]) (by simp -implicitDefEqProofs only [go_sem, Nat.reduceEqDiff, Nat.reduceAdd, Nat.reduceLT, Nat.reduceLeDiff, Nat.reduceMul, Nat.reduceBEq, reduceIte, he0, le0, qe0, pe0, he1, le1, qe1, pe1, hxt0t1, hxt1t0, wt0t1, cl2, cv2, ce2, cl4, cv4, ce4, gi9, i9, c10, c11]) (by simp -implicitDefEqProofs only [go_sem, Nat.reduceEqDiff, Nat.reduceAdd, Nat.reduceLT, Nat.reduceLeDiff, Nat.reduceMul, Nat.reduceBEq, reduceIte]) ?_
        cases h
        subst hQ
        simp -implicitDefEqProofs only [go_sem, Nat.reduceEqDiff, Nat.reduceAdd, Nat.reduceLT, Nat.reduceLeDiff, Nat.reduceMul, Nat.reduceBEq, reduceIte, he0, le0, qe0, pe0, he1, le1, qe1, pe1, hxt0t1, hxt1t0, wt0t1, cl2, cv2, ce2, cl4, cv4, ce4, gi9, i9, c10, c11, Try.results73]
      · rcases ib h with ⟨c14, h⟩ | ⟨c14, h⟩
        · obtain ⟨r15, hr15, h⟩ := bs h
          simp -implicitDefEqProofs only [go_sem, Nat.reduceEqDiff, Nat.reduceAdd, Nat.reduceLT, Nat.reduceLeDiff, Nat.reduceMul, Nat.reduceBEq, reduceIte, he0, le0, qe0, pe0, he1, le1, qe1, pe1, hxt0t1, hxt1t0, wt0t1, cl2, cv2, ce2, cl4, cv4, ce4, gi9, i9, c10, c11, c14]
          refine call_frz (r' := .tup [.agg [.p (.int .i64 r15.1.f0), .p (.int .i64 r15.1.f1)], .p (.int .i64 r15.2)]) (m_rat_Sub_ev r3.1 (⟨1, 1⟩ : TRat) r15 hr15 (d + 1) empty) (by simp -implicitDefEqProofs only [go_sem, Nat.reduceEqDiff, Nat.reduceAdd, Nat.reduceLT, Nat.reduceLeDiff, Nat.reduceMul, Nat.reduceBEq, reduceIte, he0, le0, qe0, pe0, he1, le1, qe1, pe1, hxt0t1, hxt1t0, wt0t1, cl2, cv2, ce2, cl4, cv4, ce4, gi9, i9, c10, c11, c14]) rfl (by simp -implicitDefEqProofs only [go_sem, Nat.reduceEqDiff, Nat.reduceAdd, Nat.reduceLT, Nat.reduceLeDiff, Nat.reduceMul, Nat.reduceBEq, reduceIte]) (by simp -implicitDefEqProofs only [go_sem, Nat.reduceEqDiff, Nat.reduceAdd, Nat.reduceLT, Nat.reduceLeDiff, Nat.reduceMul, Nat.reduceBEq, reduceIte]) ?_ rfl rfl
          obtain ⟨r16, hr16, h⟩ := bs h
          simp -implicitDefEqProofs only [go_sem, Nat.reduceEqDiff, Nat.reduceAdd, Nat.reduceLT, Nat.reduceLeDiff, Nat.reduceMul, Nat.reduceBEq, reduceIte, he0, le0, qe0, pe0, he1, le1, qe1, pe1, hxt0t1, hxt1t0, wt0t1, cl2, cv2, ce2, cl4, cv4, ce4, gi9, i9, c10, c11, c14]
          refine call_open0 (t0 := 999) (r := .agg [.p (.int .i64 r16.1.f0), .p (.int .i64 r16.1.f1)]) (m_bound_engine_rat_ev r3.2.2.1 r15.1 r15.2 r16 hr16 (d + 1) _ e0 t0 (Nat.le_succ_of_le he0) (by simp -implicitDefEqProofs only [go_sem, Nat.reduceEqDiff, Nat.reduceAdd, Nat.reduceLT, Nat.reduceLeDiff, Nat.reduceMul, Nat.reduceBEq, reduceIte, he0, le0, qe0, pe0, he1, le1, qe1, pe1, hxt0t1, hxt1t0, wt0t1, cl2, cv2, ce2, cl4, cv4, ce4, gi9, i9, c10, c11, c14]) ) (by simp -implicitDefEqProofs only [go_sem, Nat.reduceEqDiff, Nat.reduceAdd, Nat.reduceLT, Nat.reduceLeDiff, Nat.reduceMul, Nat.reduceBEq, reduceIte, he0, le0, qe0, pe0, he1, le1, qe1, pe1, hxt0t1, hxt1t0, wt0t1, cl2, cv2, ce2, cl4, cv4, ce4, gi9, i9, c10, c11, c14]) rfl (by simp -implicitDefEqProofs only [go_sem, Nat.reduceEqDiff, Nat.reduceAdd, Nat.reduceLT, Nat.reduceLeDiff, Nat.reduceMul, Nat.reduceBEq, reduceIte, he0, le0, qe0, pe0, he1, le1, qe1, pe1, hxt0t1, hxt1t0, wt0t1, cl2, cv2, ce2, cl4, cv4, ce4, gi9, i9, c10, c11, c14]) (by simp -implicitDefEqProofs only [go_sem, Nat.reduceEqDiff, Nat.reduceAdd, Nat.reduceLT, Nat.reduceLeDiff, Nat.reduceMul, Nat.reduceBEq, reduceIte, he0, le0, qe0, pe0, he1, le1, qe1, pe1, hxt0t1, hxt1t0, wt0t1, cl2, cv2, ce2, cl4, cv4, ce4, gi9, i9, c10, c11, c14]) (by simp -implicitDefEqProofs only [go_sem, Nat.reduceEqDiff, Nat.reduceAdd, Nat.reduceLT, Nat.reduceLeDiff, Nat.reduceMul, Nat.reduceBEq, reduceIte]) ?_
          cases h
          subst hQ
          simp -implicitDefEqProofs only [go_sem, Nat.reduceEqDiff, Nat.reduceAdd, Nat.reduceLT, Nat.reduceLeDiff, Nat.reduceMul, Nat.reduceBEq, reduceIte, he0, le0, qe0, pe0, he1, le1, qe1, pe1, hxt0t1, hxt1t0, wt0t1, cl2, cv2, ce2, cl4, cv4, ce4, gi9, i9, c10, c11, c14, Try.results73]
        · obtain ⟨r17, hr17, h⟩ := bs h
          simp -implicitDefEqProofs only [go_sem, Nat.reduceEqDiff, Nat.reduceAdd, Nat.reduceLT, Nat.reduceLeDiff, Nat.reduceMul, Nat.reduceBEq, reduceIte, he0, le0, qe0, pe0, he1, le1, qe1, pe1, hxt0t1, hxt1t0, wt0t1, cl2, cv2, ce2, cl4, cv4, ce4, gi9, i9, c10, c11, c14]
          refine call_frz (r' := .tup [.agg [.p (.int .i64 r17.1.f0), .p (.int .i64 r17.1.f1)], .p (.int .i64 r17.2)]) (m_rat_Add_ev r1.1 r3.1 r17 hr17 (d + 1) empty) (by simp -implicitDefEqProofs only [go_sem, Nat.reduceEqDiff, Nat.reduceAdd, Nat.reduceLT, Nat.reduceLeDiff, Nat.reduceMul, Nat.reduceBEq, reduceIte, he0, le0, qe0, pe0, he1, le1, qe1, pe1, hxt0t1, hxt1t0, wt0t1, cl2, cv2, ce2, cl4, cv4, ce4, gi9, i9, c10, c11, c14]) rfl (by simp -implicitDefEqProofs only [go_sem, Nat.reduceEqDiff, Nat.reduceAdd, Nat.reduceLT, Nat.reduceLeDiff, Nat.reduceMul, Nat.reduceBEq, reduceIte]) (by simp -implicitDefEqProofs only [go_sem, Nat.reduceEqDiff, Nat.reduceAdd, Nat.reduceLT, Nat.reduceLeDiff, Nat.reduceMul, Nat.reduceBEq, reduceIte]) ?_ rfl rfl
          obtain ⟨r18, hr18, h⟩ := bs h
          simp -implicitDefEqProofs only [go_sem, Nat.reduceEqDiff, Nat.reduceAdd, Nat.reduceLT, Nat.reduceLeDiff, Nat.reduceMul, Nat.reduceBEq, reduceIte, he0, le0, qe0, pe0, he1, le1, qe1, pe1, hxt0t1, hxt1t0, wt0t1, cl2, cv2, ce2, cl4, cv4, ce4, gi9, i9, c10, c11, c14]
          refine call_open0 (t0 := 999) (r := .agg [.p (.int .i64 r18.1.f0), .p (.int .i64 r18.1.f1)]) (m_bound_engine_rat_ev r3.2.2.1 r17.1 r17.2 r18 hr18 (d + 1) _ e0 t0 (Nat.le_succ_of_le he0) (by simp -implicitDefEqProofs only [go_sem, Nat.reduceEqDiff, Nat.reduceAdd, Nat.reduceLT, Nat.reduceLeDiff, Nat.reduceMul, Nat.reduceBEq, reduceIte, he0, le0, qe0, pe0, he1, le1, qe1, pe1, hxt0t1, hxt1t0, wt0t1, cl2, cv2, ce2, cl4, cv4, ce4, gi9, i9, c10, c11, c14]) ) (by simp -implicitDefEqProofs only [go_sem, Nat.reduceEqDiff, Nat.reduceAdd, Nat.reduceLT, Nat.reduceLeDiff, Nat.reduceMul, Nat.reduceBEq, reduceIte, he0, le0, qe0, pe0, he1, le1, qe1, pe1, hxt0t1, hxt1t0, wt0t1, cl2, cv2, ce2, cl4, cv4, ce4, gi9, i9, c10, c11, c14]) rfl (by simp -implicitDefEqProofs only [go_sem, Nat.reduceEqDiff, Nat.reduceAdd, Nat.reduceLT, Nat.reduceLeDiff, Nat.reduceMul, Nat.reduceBEq, reduceIte, he0, le0, qe0, pe0, he1, le1, qe1, pe1, hxt0t1, hxt1t0, wt0t1, cl2, cv2, ce2, cl4, cv4, ce4, gi9, i9, c10, c11, c14]) (by simp -implicitDefEqProofs only [go_sem, Nat.reduceEqDiff, Nat.reduceAdd, Nat.reduceLT, Nat.reduceLeDiff, Nat.reduceMul, Nat.reduceBEq, reduceIte, he0, le0, qe0, pe0, he1, le1, qe1, pe1, hxt0t1, hxt1t0, wt0t1, cl2, cv2, ce2, cl4, cv4, ce4, gi9, i9, c10, c11, c14]) (by simp -implicitDefEqProofs only [go_sem, Nat.reduceEqDiff, Nat.reduceAdd, Nat.reduceLT, Nat.reduceLeDiff, Nat.reduceMul, Nat.reduceBEq, reduceIte]) ?_
          rcases ib h with ⟨c19, h⟩ | ⟨c19, h⟩
          · cases h
            subst hQ
            simp -implicitDefEqProofs only [go_sem, Nat.reduceEqDiff, Nat.reduceAdd, Nat.reduceLT, Nat.reduceLeDiff, Nat.reduceMul, Nat.reduceBEq, reduceIte, he0, le0, qe0, pe0, he1, le1, qe1, pe1, hxt0t1, hxt1t0, wt0t1, cl2, cv2, ce2, cl4, cv4, ce4, gi9, i9, c10, c11, c14, c19, Try.results73]
          · obtain ⟨r20, hr20, h⟩ := bs h
            simp -implicitDefEqProofs only [go_sem, Nat.reduceEqDiff, Nat.reduceAdd, Nat.reduceLT, Nat.reduceLeDiff, Nat.reduceMul, Nat.reduceBEq, reduceIte, he0, le0, qe0, pe0, he1, le1, qe1, pe1, hxt0t1, hxt1t0, wt0t1, cl2, cv2, ce2, cl4, cv4, ce4, gi9, i9, c10, c11, c14, c19]
            refine call_frz (r' := .tup [.agg [.p (.int .i64 r20.1.f0), .p (.int .i64 r20.1.f1)], .p (.int .i64 r20.2)]) (m_rat_Mul_ev r18.1 (⟨1, 2⟩ : TRat) r20 hr20 (d + 1) empty) (by simp -implicitDefEqProofs only [go_sem, Nat.reduceEqDiff, Nat.reduceAdd, Nat.reduceLT, Nat.reduceLeDiff, Nat.reduceMul, Nat.reduceBEq, reduceIte, he0, le0, qe0, pe0, he1, le1, qe1, pe1, hxt0t1, hxt1t0, wt0t1, cl2, cv2, ce2, cl4, cv4, ce4, gi9, i9, c10, c11, c14, c19]) rfl (by simp -implicitDefEqProofs only [go_sem, Nat.reduceEqDiff, Nat.reduceAdd, Nat.reduceLT, Nat.reduceLeDiff, Nat.reduceMul, Nat.reduceBEq, reduceIte]) (by simp -implicitDefEqProofs only [go_sem, Nat.reduceEqDiff, Nat.reduceAdd, Nat.reduceLT, Nat.reduceLeDiff, Nat.reduceMul, Nat.reduceBEq, reduceIte]) ?_ rfl rfl
            obtain ⟨r21, hr21, h⟩ := bs h
            simp -implicitDefEqProofs only [go_sem, Nat.reduceEqDiff, Nat.reduceAdd, Nat.reduceLT, Nat.reduceLeDiff, Nat.reduceMul, Nat.reduceBEq, reduceIte, he0, le0, qe0, pe0, he1, le1, qe1, pe1, hxt0t1, hxt1t0, wt0t1, cl2, cv2, ce2, cl4, cv4, ce4, gi9, i9, c10, c11, c14, c19]
            refine call_open0 (t0 := 999) (r := .agg [.p (.int .i64 r21.1.f0), .p (.int .i64 r21.1.f1)]) (m_bound_engine_rat_ev r18.2 r20.1 r20.2 r21 hr21 (d + 1) _ e0 t0 (Nat.le_succ_of_le he0) (by simp -implicitDefEqProofs only [go_sem, Nat.reduceEqDiff, Nat.reduceAdd, Nat.reduceLT, Nat.reduceLeDiff, Nat.reduceMul, Nat.reduceBEq, reduceIte, he0, le0, qe0, pe0, he1, le1, qe1, pe1, hxt0t1, hxt1t0, wt0t1, cl2, cv2, ce2, cl4, cv4, ce4, gi9, i9, c10, c11, c14, c19]) ) (by simp -implicitDefEqProofs only [go_sem, Nat.reduceEqDiff, Nat.reduceAdd, Nat.reduceLT, Nat.reduceLeDiff, Nat.reduceMul, Nat.reduceBEq, reduceIte, he0, le0, qe0, pe0, he1, le1, qe1, pe1, hxt0t1, hxt1t0, wt0t1, cl2, cv2, ce2, cl4, cv4, ce4, gi9, i9, c10, c11, c14, c19]) rfl (by simp -implicitDefEqProofs only [go_sem, Nat.reduceEqDiff, Nat.reduceAdd, Nat.reduceLT, Nat.reduceLeDiff, Nat.reduceMul, Nat.reduceBEq, reduceIte, he0, le0, qe0, pe0, he1, le1, qe1, pe1, hxt0t1, hxt1t0, wt0t1, cl2, cv2, ce2, cl4, cv4, ce4, gi9, i9, c10, c11, c14, c19]) (by simp -implicitDefEqProofs only [go_sem, Nat.reduceEqDiff, Nat.reduceAdd, Nat.reduceLT, Nat.reduceLeDiff, Nat.reduceMul, Nat.reduceBEq, reduceIte, he0, le0, qe0, pe0, he1, le1, qe1, pe1, hxt0t1, hxt1t0, wt0t1, cl2, cv2, ce2, cl4, cv4, ce4, gi9, i9, c10, c11, c14, c19]) (by simp -implicitDefEqProofs only [go_sem, Nat.reduceEqDiff, Nat.reduceAdd, Nat.reduceLT, Nat.reduceLeDiff, Nat.reduceMul, Nat.reduceBEq, reduceIte]) ?_
            cases h
            subst hQ
            simp -implicitDefEqProofs only [go_sem, Nat.reduceEqDiff, Nat.reduceAdd, Nat.reduceLT, Nat.reduceLeDiff, Nat.reduceMul, Nat.reduceBEq, reduceIte, he0, le0, qe0, pe0, he1, le1, qe1, pe1, hxt0t1, hxt1t0, wt0t1, cl2, cv2, ce2, cl4, cv4, ce4, gi9, i9, c10, c11, c14, c19, Try.results73]
end Go.E
end
