import Derived.Test.YtfcehcjhilmlgaaSb9
section
set_option linter.all false
set_option maxRecDepth 100000
namespace Go.E
open Go Go.Proofs Go.Eng
variable {TB : Nat → Option Obj}
theorem m_bound_engine_plain_ev (a0 : TBound_engine) (a1 : TRow) (a2 : List TTerm) (a3 : List Int) (r0 : TRow × TBound_engine) (h : m_bound_engine_plain a0 a1 a2 a3 = some r0) (d : Nat) (G : Heap) (e0 t0 : Nat) (he0 : e0 ≤ d) (hGt0 : G e0 t0 = [.box [.p (.bool a0.f0)]]) : Tel Try.prog TB d 37 [.bp (e0, t0, 0) 0, .agg ((cTRow a1).map .p), .p (.sl (a2.map cTTerm)), .p (.sl (a3.map cii64))] G (.agg ((cTRow r0.1).map .p)) (fillKey (G) e0 t0 ([.box [.p (.bool r0.2.f0)]])) := by
  unfold m_bound_engine_plain at h
  refine Tel.intro mix Try.func37 rfl (Nat.le_of_ble_eq_true rfl) {openAt := fun t => t == 48 || t == 61, frzAt := fun t => t == 26 || t == 45 || t == 58, boxAt := fun t => if t = 11 then some 11 else if t = 20 then some 5 else if t = 24 then some 900024 else none, clean := fun r => if r = 2 then [10, 11, 12] else []} (by kernel_rfl) (by kernel_rfl) ?_
  have le0 : (e0 ≤ d + 1) = True := by simp; omega
  have qe0 : (e0 = d + 1) = False := by simp; omega
  have pe0 : (d + 1 = e0) = False := by simp; omega
  refine gwp_heap (H' := fillKey (cut d G) e0 t0 [.box [.p (.bool a0.f0)]]) ?_ ?_
  · rw [fill_self (B := cut d G) (a := e0) (b := t0) (by rw [cut_app, if_pos he0]; exact hGt0)]
  generalize hQ : callPost _ _ _ _ _ = Q
  simp -implicitDefEqProofs only [go_sem, Nat.reduceEqDiff, Nat.reduceAdd, Nat.reduceLT, Nat.reduceLeDiff, Nat.reduceMul, Nat.reduceBEq, reduceIte, he0, le0, qe0, pe0]
  obtain ⟨z11, hL11, h⟩ := bs h
  obtain ⟨I11, hI11⟩ : ∃ I : (Int × Bool × (List TRat) × Int × Int) → St → Prop, I = fun a s => match a with | (v12, v13, v14, v15, v16) => s.G = fillKey (fillKey (fillKey (cut d G) e0 t0 [.box [.p (.bool v13)]]) (d + 1) 5 [.box [.p (.int .i64 a1.f0), .p (.sl (v14.map cTRat)), .p (.int .i64 v15), .p (.int .i64 v16)]]) (d + 1) 8 [.box [.p (.int .i64 0), .csl [], .p (.int .i64 0), .p (.int .i64 0)]] ∧ s.F 0 = .bp (e0, t0, 0) 0 ∧ s.F 3 = .p (.sl (a3.map cii64)) ∧ s.F 5 = .bp (d + 1, 5, 0) 0 ∧ s.F 8 = .bp (d + 1, 8, 0) 0 ∧ s.F 13 = .p (.sl (a2.map cTTerm)) ∧ s.F 14 = .p (.int .i64 (a2.length : Int)) ∧ s.F 15 = .p (.int .i64 v12) ∧ True := ⟨_, rfl⟩
  obtain ⟨R11, hR11⟩ : ∃ R : (Bool × (List TRat) × Int × Int) → GE → St → Prop, R = fun x e s => match x with | (v17, v18, v19, v20) => e = .exit 0 ∧ s.G = fillKey (fillKey (fillKey (cut d G) e0 t0 [.box [.p (.bool v17)]]) (d + 1) 5 [.box [.p (.int .i64 a1.f0), .p (.sl (v18.map cTRat)), .p (.int .i64 v19), .p (.int .i64 v20)]]) (d + 1) 8 [.box [.p (.int .i64 0), .csl [], .p (.int .i64 0), .p (.int .i64 0)]] ∧ s.F 5 = .bp (d + 1, 5, 0) 0 ∧ s.F 8 = .bp (d + 1, 8, 0) 0 ∧ True := ⟨_, rfl⟩
  refine lp (ts := [10, 11, 12]) rfl hL11 I11 R11 ?_ ?_ ?_
  · rw [hI11]
    simp -implicitDefEqProofs only [go_sem, Nat.reduceEqDiff, Nat.reduceAdd, Nat.reduceLT, Nat.reduceLeDiff, Nat.reduceMul, Nat.reduceBEq, reduceIte, he0, le0, qe0, pe0]
  · clear h hL11
    rintro ⟨v12, v13, v14, v15, v16⟩ y s h i
    rw [hI11] at i
    obtain ⟨gi11, i11⟩ := i
    replace h : m_bound_engine_plain_L0 a2 a3 (v12, v13, v14, v15, v16) = some y := h
    unfold m_bound_engine_plain_L0 at h
    rcases ib h with ⟨c21, h⟩ | ⟨c21, h⟩
    · obtain ⟨v22, hv22, h⟩ := bs h
      replace hv22 := gis hv22
      obtain ⟨v23, hv23, h⟩ := bs h
      replace hv23 := gis hv23
      obtain ⟨r24, hr24, h⟩ := bs h
      simp -implicitDefEqProofs only [go_sem, Nat.reduceEqDiff, Nat.reduceAdd, Nat.reduceLT, Nat.reduceLeDiff, Nat.reduceMul, Nat.reduceBEq, reduceIte, he0, le0, qe0, pe0, gi11, i11, c21, hv22, hv23]
      refine call_frz (r' := .agg [.p (.int .i64 r24.f0), .p (.int .i64 r24.f1)]) (m_term_At_ev (⟨v14, (⟨v15, v16⟩ : TRat)⟩ : TTerm) v23 r24 hr24 (d + 1) empty) (by simp -implicitDefEqProofs only [go_sem, Nat.reduceEqDiff, Nat.reduceAdd, Nat.reduceLT, Nat.reduceLeDiff, Nat.reduceMul, Nat.reduceBEq, reduceIte, he0, le0, qe0, pe0, gi11, i11, c21, hv22, hv23]) rfl (by simp -implicitDefEqProofs only [go_sem, Nat.reduceEqDiff, Nat.reduceAdd, Nat.reduceLT, Nat.reduceLeDiff, Nat.reduceMul, Nat.reduceBEq, reduceIte]) (by simp -implicitDefEqProofs only [go_sem, Nat.reduceEqDiff, Nat.reduceAdd, Nat.reduceLT, Nat.reduceLeDiff, Nat.reduceMul, Nat.reduceBEq, reduceIte]) ?_ rfl rfl
      simp -implicitDefEqProofs only [go_sem, Nat.reduceEqDiff, Nat.reduceAdd, Nat.reduceLT, Nat.reduceLeDiff, Nat.reduceMul, Nat.reduceBEq, reduceIte, he0, le0, qe0, pe0, gi11, i11, c21, hv22, hv23]
      obtain ⟨v25, hz, h⟩ := bs h
      obtain ⟨R26, hR26⟩ : ∃ R : St → Prop, R = fun s => s.G = fillKey (fillKey (fillKey (fillKey (fillKey (cut d G) e0 t0 [.box [.p (.bool v13)]]) (d + 1) 5 [.box [.p (.int .i64 a1.f0), .p (.sl (v14.map cTRat)), .p (.int .i64 v15), .p (.int .i64 v16)]]) (d + 1) 8 [.box [.p (.int .i64 0), .csl [], .p (.int .i64 0), .p (.int .i64 0)]]) (d + 1) 10 [.box [.p (.sl (v22.f0.map cTRat)), .p (.int .i64 v22.f1.f0), .p (.int .i64 v22.f1.f1)]]) (d + 1) 11 [.box [.p (.int .i64 r24.f0), .p (.int .i64 r24.f1)]] ∧ s.F 0 = .bp (e0, t0, 0) 0 ∧ s.F 3 = .p (.sl (a3.map cii64)) ∧ s.F 5 = .bp (d + 1, 5, 0) 0 ∧ s.F 8 = .bp (d + 1, 8, 0) 0 ∧ s.F 10 = .bp (d + 1, 10, 0) 0 ∧ s.F 11 = .bp (d + 1, 11, 0) 0 ∧ s.F 13 = .p (.sl (a2.map cTTerm)) ∧ s.F 14 = .p (.int .i64 (a2.length : Int)) ∧ s.F 15 = .p (.int .i64 v12) ∧ s.F 36 = .p (.bool v25) ∧ True := ⟨_, rfl⟩
      refine cutR R26 ?_ ?_
      · replace h := hz
        rcases ib h with ⟨c27, h⟩ | ⟨c27, h⟩
        · cases h
          simp -implicitDefEqProofs only [go_sem, Nat.reduceEqDiff, Nat.reduceAdd, Nat.reduceLT, Nat.reduceLeDiff, Nat.reduceMul, Nat.reduceBEq, reduceIte, he0, le0, qe0, pe0, gi11, i11, c21, hv22, hv23, c27]
          rw [hR26]
          simp -implicitDefEqProofs only [go_sem, Nat.reduceEqDiff, Nat.reduceAdd, Nat.reduceLT, Nat.reduceLeDiff, Nat.reduceMul, Nat.reduceBEq, reduceIte, he0, le0, qe0, pe0, gi11, i11, c21, hv22, hv23, c27]
        · cases h
          simp -implicitDefEqProofs only [go_sem, Nat.reduceEqDiff, Nat.reduceAdd, Nat.reduceLT, Nat.reduceLeDiff, Nat.reduceMul, Nat.reduceBEq, reduceIte, he0, le0, qe0, pe0, gi11, i11, c21, hv22, hv23, c27]
          rw [hR26]
          simp -implicitDefEqProofs only [go_sem, Nat.reduceEqDiff, Nat.reduceAdd, Nat.reduceLT, Nat.reduceLeDiff, Nat.reduceMul, Nat.reduceBEq, reduceIte, he0, le0, qe0, pe0, gi11, i11, c21, hv22, hv23, c27]
      · replace h := h; clear hz
        rintro s i
        rw [hR26] at i
        obtain ⟨gi28, i28⟩ := i
        clear hR26
        try dsimp only at h
        simp -implicitDefEqProofs only [go_sem, Nat.reduceEqDiff, Nat.reduceAdd, Nat.reduceLT, Nat.reduceLeDiff, Nat.reduceMul, Nat.reduceBEq, reduceIte, he0, le0, qe0, pe0, gi11, i11, c21, hv22, hv23, gi28, i28]
        obtain ⟨⟨v29, v30, v31, v32⟩, hz, h⟩ := bs h
        obtain ⟨R34, hR34⟩ : ∃ R : St → Prop, R = fun s => ∃ j33, s.G = fillKey (fillKey (fillKey (fillKey (fillKey (fillKey (cut d G) e0 t0 [.box [.p (.bool v29)]]) (d + 1) 5 [.box [.p (.int .i64 a1.f0), .p (.sl (v30.map cTRat)), .p (.int .i64 v31), .p (.int .i64 v32)]]) (d + 1) 8 [.box [.p (.int .i64 0), .csl [], .p (.int .i64 0), .p (.int .i64 0)]]) (d + 1) 10 [.box [.p (.sl (v22.f0.map cTRat)), .p (.int .i64 v22.f1.f0), .p (.int .i64 v22.f1.f1)]]) (d + 1) 11 [.box [.p (.int .i64 r24.f0), .p (.int .i64 r24.f1)]]) (d + 1) 12 j33 ∧ s.F 0 = .bp (e0, t0, 0) 0 ∧ s.F 3 = .p (.sl (a3.map cii64)) ∧ s.F 5 = .bp (d + 1, 5, 0) 0 ∧ s.F 8 = .bp (d + 1, 8, 0) 0 ∧ s.F 13 = .p (.sl (a2.map cTTerm)) ∧ s.F 14 = .p (.int .i64 (a2.length : Int)) ∧ s.F 15 = .p (.int .i64 v12) ∧ True := ⟨_, rfl⟩
        refine cutG R34 ?_ ?_
        · replace h := hz
          rcases ib h with ⟨c35, h⟩ | ⟨c35, h⟩
          · obtain ⟨r36, hr36, h⟩ := bs h
            simp -implicitDefEqProofs only [go_sem, Nat.reduceEqDiff, Nat.reduceAdd, Nat.reduceLT, Nat.reduceLeDiff, Nat.reduceMul, Nat.reduceBEq, reduceIte, he0, le0, qe0, pe0, gi11, i11, c21, hv22, hv23, gi28, i28, c35]
            refine call_frz (r' := .tup [.agg [.p (.sl (r36.1.f0.map cTRat)), .p (.int .i64 r36.1.f1.f0), .p (.int .i64 r36.1.f1.f1)], .p (.int .i64 r36.2)]) (m_term_Scale_ev v22 (⟨IntKind.wrap .i64 (0 - r24.f0), r24.f1⟩ : TRat) r36 hr36 (d + 1) empty) (by simp -implicitDefEqProofs only [go_sem, Nat.reduceEqDiff, Nat.reduceAdd, Nat.reduceLT, Nat.reduceLeDiff, Nat.reduceMul, Nat.reduceBEq, reduceIte, he0, le0, qe0, pe0, gi11, i11, c21, hv22, hv23, gi28, i28, c35]) rfl (by simp -implicitDefEqProofs only [go_sem, Nat.reduceEqDiff, Nat.reduceAdd, Nat.reduceLT, Nat.reduceLeDiff, Nat.reduceMul, Nat.reduceBEq, reduceIte]) (by simp -implicitDefEqProofs only [go_sem, Nat.reduceEqDiff, Nat.reduceAdd, Nat.reduceLT, Nat.reduceLeDiff, Nat.reduceMul, Nat.reduceBEq, reduceIte]) ?_ rfl rfl
            obtain ⟨r37, hr37, h⟩ := bs h
            simp -implicitDefEqProofs only [go_sem, Nat.reduceEqDiff, Nat.reduceAdd, Nat.reduceLT, Nat.reduceLeDiff, Nat.reduceMul, Nat.reduceBEq, reduceIte, he0, le0, qe0, pe0, gi11, i11, c21, hv22, hv23, gi28, i28, c35]
            refine call_open0 (t0 := 999) (r := .agg [.p (.sl (r37.1.f0.map cTRat)), .p (.int .i64 r37.1.f1.f0), .p (.int .i64 r37.1.f1.f1)]) (m_bound_engine_term_ev (⟨v13⟩ : TBound_engine) r36.1 r36.2 r37 hr37 (d + 1) _ e0 t0 (Nat.le_succ_of_le he0) (by simp -implicitDefEqProofs only [go_sem, Nat.reduceEqDiff, Nat.reduceAdd, Nat.reduceLT, Nat.reduceLeDiff, Nat.reduceMul, Nat.reduceBEq, reduceIte, he0, le0, qe0, pe0, gi11, i11, c21, hv22, hv23, gi28, i28, c35]) ) (by simp -implicitDefEqProofs only [go_sem, Nat.reduceEqDiff, Nat.reduceAdd, Nat.reduceLT, Nat.reduceLeDiff, Nat.reduceMul, Nat.reduceBEq, reduceIte, he0, le0, qe0, pe0, gi11, i11, c21, hv22, hv23, gi28, i28, c35]) rfl (by simp -implicitDefEqProofs only [go_sem, Nat.reduceEqDiff, Nat.reduceAdd, Nat.reduceLT, Nat.reduceLeDiff, Nat.reduceMul, Nat.reduceBEq, reduceIte, he0, le0, qe0, pe0, gi11, i11, c21, hv22, hv23, gi28, i28, c35]) (by simp -implicitDefEqProofs only [go_sem, Nat.reduceEqDiff, Nat.reduceAdd, Nat.reduceLT, Nat.reduceLeDiff, Nat.reduceMul, Nat.reduceBEq, reduceIte, he0, le0, qe0, pe0, gi11, i11, c21, hv22, hv23, gi28, i28, c35]) (by simp -implicitDefEqProofs only [go_sem, Nat.reduceEqDiff, Nat.reduceAdd, Nat.reduceLT, Nat.reduceLeDiff, Nat.reduceMul, Nat.reduceBEq, reduceIte]) ?_
            simp -implicitDefEqProofs only [go_sem, Nat.reduceEqDiff, Nat.reduceAdd, Nat.reduceLT, Nat.reduceLeDiff, Nat.reduceMul, Nat.reduceBEq, reduceIte, he0, le0, qe0, pe0, gi11, i11, c21, hv22, hv23, gi28, i28, c35]
            obtain ⟨⟨v38, v39, v40, v41⟩, hz, h⟩ := bs h
            obtain ⟨R42, hR42⟩ : ∃ R : St → Prop, R = fun s => s.G = fillKey (fillKey (fillKey (fillKey (fillKey (fillKey (cut d G) e0 t0 [.box [.p (.bool v38)]]) (d + 1) 5 [.box [.p (.int .i64 a1.f0), .p (.sl (v39.map cTRat)), .p (.int .i64 v40), .p (.int .i64 v41)]]) (d + 1) 8 [.box [.p (.int .i64 0), .csl [], .p (.int .i64 0), .p (.int .i64 0)]]) (d + 1) 10 [.box [.p (.sl (v22.f0.map cTRat)), .p (.int .i64 v22.f1.f0), .p (.int .i64 v22.f1.f1)]]) (d + 1) 11 [.box [.p (.int .i64 r24.f0), .p (.int .i64 r24.f1)]]) (d + 1) 12 [.box [.p (.sl (r37.1.f0.map cTRat)), .p (.int .i64 r37.1.f1.f0), .p (.int .i64 r37.1.f1.f1)]] ∧ s.F 0 = .bp (e0, t0, 0) 0 ∧ s.F 3 = .p (.sl (a3.map cii64)) ∧ s.F 5 = .bp (d + 1, 5, 0) 0 ∧ s.F 8 = .bp (d + 1, 8, 0) 0 ∧ s.F 13 = .p (.sl (a2.map cTTerm)) ∧ s.F 14 = .p (.int .i64 (a2.length : Int)) ∧ s.F 15 = .p (.int .i64 v12) ∧ True := ⟨_, rfl⟩
            refine cutG R42 ?_ ?_
            · replace h := hz
              rcases ib h with ⟨c43, h⟩ | ⟨c43, h⟩
              · obtain ⟨r44, hr44, h⟩ := bs h
                simp -implicitDefEqProofs only [go_sem, Nat.reduceEqDiff, Nat.reduceAdd, Nat.reduceLT, Nat.reduceLeDiff, Nat.reduceMul, Nat.reduceBEq, reduceIte, he0, le0, qe0, pe0, gi11, i11, c21, hv22, hv23, gi28, i28, c35, c43]
                refine call_frz (r' := .tup [.agg [.p (.sl (r44.1.f0.map cTRat)), .p (.int .i64 r44.1.f1.f0), .p (.int .i64 r44.1.f1.f1)], .p (.int .i64 r44.2)]) (m_term_Add_ev (⟨v14, (⟨v15, v16⟩ : TRat)⟩ : TTerm) r37.1 r44 hr44 (d + 1) empty) (by simp -implicitDefEqProofs only [go_sem, Nat.reduceEqDiff, Nat.reduceAdd, Nat.reduceLT, Nat.reduceLeDiff, Nat.reduceMul, Nat.reduceBEq, reduceIte, he0, le0, qe0, pe0, gi11, i11, c21, hv22, hv23, gi28, i28, c35, c43]) rfl (by simp -implicitDefEqProofs only [go_sem, Nat.reduceEqDiff, Nat.reduceAdd, Nat.reduceLT, Nat.reduceLeDiff, Nat.reduceMul, Nat.reduceBEq, reduceIte]) (by simp -implicitDefEqProofs only [go_sem, Nat.reduceEqDiff, Nat.reduceAdd, Nat.reduceLT, Nat.reduceLeDiff, Nat.reduceMul, Nat.reduceBEq, reduceIte]) ?_ rfl rfl
                obtain ⟨r45, hr45, h⟩ := bs h
                simp -implicitDefEqProofs only [go_sem, Nat.reduceEqDiff, Nat.reduceAdd, Nat.reduceLT, Nat.reduceLeDiff, Nat.reduceMul, Nat.reduceBEq, reduceIte, he0, le0, qe0, pe0, gi11, i11, c21, hv22, hv23, gi28, i28, c35, c43]
                refine call_open0 (t0 := 999) (r := .agg [.p (.sl (r45.1.f0.map cTRat)), .p (.int .i64 r45.1.f1.f0), .p (.int .i64 r45.1.f1.f1)]) (m_bound_engine_term_ev r37.2 r44.1 r44.2 r45 hr45 (d + 1) _ e0 t0 (Nat.le_succ_of_le he0) (by simp -implicitDefEqProofs only [go_sem, Nat.reduceEqDiff, Nat.reduceAdd, Nat.reduceLT, Nat.reduceLeDiff, Nat.reduceMul, Nat.reduceBEq, reduceIte, he0, le0, qe0, pe0, gi11, i11, c21, hv22, hv23, gi28, i28, c35, c43]) ) (by simp -implicitDefEqProofs only [go_sem, Nat.reduceEqDiff, Nat.reduceAdd, Nat.reduceLT, Nat.reduceLeDiff, Nat.reduceMul, Nat.reduceBEq, reduceIte, he0, le0, qe0, pe0, gi11, i11, c21, hv22, hv23, gi28, i28, c35, c43]) rfl (by simp -implicitDefEqProofs only [go_sem, Nat.reduceEqDiff, Nat.reduceAdd, Nat.reduceLT, Nat.reduceLeDiff, Nat.reduceMul, Nat.reduceBEq, reduceIte, he0, le0, qe0, pe0, gi11, i11, c21, hv22, hv23, gi28, i28, c35, c43]) (by simp -implicitDefEqProofs only [go_sem, Nat.reduceEqDiff, Nat.reduceAdd, Nat.reduceLT, Nat.reduceLeDiff, Nat.reduceMul, Nat.reduceBEq, reduceIte, he0, le0, qe0, pe0, gi11, i11, c21, hv22, hv23, gi28, i28, c35, c43]) (by simp -implicitDefEqProofs only [go_sem, Nat.reduceEqDiff, Nat.reduceAdd, Nat.reduceLT, Nat.reduceLeDiff, Nat.reduceMul, Nat.reduceBEq, reduceIte]) ?_
                cases h
                simp -implicitDefEqProofs only [go_sem, Nat.reduceEqDiff, Nat.reduceAdd, Nat.reduceLT, Nat.reduceLeDiff, Nat.reduceMul, Nat.reduceBEq, reduceIte, he0, le0, qe0, pe0, gi11, i11, c21, hv22, hv23, gi28, i28, c35, c43]
                rw [hR42]
                simp -implicitDefEqProofs only [go_sem, Nat.reduceEqDiff, Nat.reduceAdd, Nat.reduceLT, Nat.reduceLeDiff, Nat.reduceMul, Nat.reduceBEq, reduceIte, he0, le0, qe0, pe0, gi11, i11, c21, hv22, hv23, gi28, i28, c35, c43]
              · cases h
                simp -implicitDefEqProofs only [go_sem, Nat.reduceEqDiff, Nat.reduceAdd, Nat.reduceLT, Nat.reduceLeDiff, Nat.reduceMul, Nat.reduceBEq, reduceIte, he0, le0, qe0, pe0, gi11, i11, c21, hv22, hv23, gi28, i28, c35, c43]
                rw [hR42]
                simp -implicitDefEqProofs only [go_sem, Nat.reduceEqDiff, Nat.reduceAdd, Nat.reduceLT, Nat.reduceLeDiff, Nat.reduceMul, Nat.reduceBEq, reduceIte, he0, le0, qe0, pe0, gi11, i11, c21, hv22, hv23, gi28, i28, c35, c43]
            · replace h := h; clear hz
              rintro s i
              rw [hR42] at i
              obtain ⟨gi46, i46⟩ := i
              clear hR42
              try dsimp only at h
              cases h
              simp -implicitDefEqProofs only [go_sem, Nat.reduceEqDiff, Nat.reduceAdd, Nat.reduceLT, Nat.reduceLeDiff, Nat.reduceMul, Nat.reduceBEq, reduceIte, he0, le0, qe0, pe0, gi11, i11, c21, hv22, hv23, gi28, i28, c35, gi46, i46]
              rw [hR34]
              refine ⟨[.box [.p (.sl (r37.1.f0.map cTRat)), .p (.int .i64 r37.1.f1.f0), .p (.int .i64 r37.1.f1.f1)]], ?_⟩
              simp -implicitDefEqProofs only [go_sem, Nat.reduceEqDiff, Nat.reduceAdd, Nat.reduceLT, Nat.reduceLeDiff, Nat.reduceMul, Nat.reduceBEq, reduceIte, he0, le0, qe0, pe0, gi11, i11, c21, hv22, hv23, gi28, i28, c35, gi46, i46]
          · cases h
            simp -implicitDefEqProofs only [go_sem, Nat.reduceEqDiff, Nat.reduceAdd, Nat.reduceLT, Nat.reduceLeDiff, Nat.reduceMul, Nat.reduceBEq, reduceIte, he0, le0, qe0, pe0, gi11, i11, c21, hv22, hv23, gi28, i28, c35]
            rw [hR34]
            refine ⟨[], ?_⟩
            simp -implicitDefEqProofs only [go_sem, Nat.reduceEqDiff, Nat.reduceAdd, Nat.reduceLT, Nat.reduceLeDiff, Nat.reduceMul, Nat.reduceBEq, reduceIte, he0, le0, qe0, pe0, gi11, i11, c21, hv22, hv23, gi28, i28, c35]
        · replace h := h; clear hz
          rintro s i
          rw [hR34] at i
          obtain ⟨j33, gi47, i47⟩ := i
          clear hR34
          try dsimp only at h
          cases h
          simp -implicitDefEqProofs only [go_sem, Nat.reduceEqDiff, Nat.reduceAdd, Nat.reduceLT, Nat.reduceLeDiff, Nat.reduceMul, Nat.reduceBEq, reduceIte, he0, le0, qe0, pe0, gi11, i11, c21, hv22, hv23, gi28, i28, gi47, i47]
          rw [hI11]
          simp -implicitDefEqProofs only [go_sem, Nat.reduceEqDiff, Nat.reduceAdd, Nat.reduceLT, Nat.reduceLeDiff, Nat.reduceMul, Nat.reduceBEq, reduceIte, he0, le0, qe0, pe0, gi11, i11, c21, hv22, hv23, gi28, i28, gi47, i47]
    · cases h
      simp -implicitDefEqProofs only [go_sem, Nat.reduceEqDiff, Nat.reduceAdd, Nat.reduceLT, Nat.reduceLeDiff, Nat.reduceMul, Nat.reduceBEq, reduceIte, he0, le0, qe0, pe0, gi11, i11, c21]
      rw [hR11]
      first | refine ⟨rfl, ?_⟩ | refine ⟨(), rfl, ?_⟩
      simp -implicitDefEqProofs only [go_sem, Nat.reduceEqDiff, Nat.reduceAdd, Nat.reduceLT, Nat.reduceLeDiff, Nat.reduceMul, Nat.reduceBEq, reduceIte, he0, le0, qe0, pe0, gi11, i11, c21]
  · clear hL11 hI11
    intro e s hr11
    rw [hR11] at hr11
    clear hR11
    rcases z11 with ⟨v17, v18, v19, v20⟩
    try dsimp only at h hr11
    obtain ⟨rfl, gi48, i48⟩ := hr11
    cases h
    subst hQ
    simp -implicitDefEqProofs only [go_sem, Nat.reduceEqDiff, Nat.reduceAdd, Nat.reduceLT, Nat.reduceLeDiff, Nat.reduceMul, Nat.reduceBEq, reduceIte, he0, le0, qe0, pe0, gi48, i48, Try.results37]
theorem m_bound_engine_divide_ev (a0 : TBound_engine) (a1 : TRow) (a2 : TRat) (r0 : TRow × TBound_engine) (h : m_bound_engine_divide a0 a1 a2 = some r0) (d : Nat) (G : Heap) (e0 t0 : Nat) (he0 : e0 ≤ d) (hGt0 : G e0 t0 = [.box [.p (.bool a0.f0)]]) : Tel Try.prog TB d 70 [.bp (e0, t0, 0) 0, .agg ((cTRow a1).map .p), .agg ((cTRat a2).map .p)] G (.agg ((cTRow r0.1).map .p)) (fillKey (G) e0 t0 ([.box [.p (.bool r0.2.f0)]])) := by
  unfold m_bound_engine_divide at h
  refine Tel.intro mix Try.func70 rfl (Nat.le_of_ble_eq_true rfl) {openAt := fun t => t == 21 || t == 34, frzAt := fun t => t == 18 || t == 31} (by kernel_rfl) (by kernel_rfl) ?_
  have le0 : (e0 ≤ d + 1) = True := by simp; omega
  have qe0 : (e0 = d + 1) = False := by simp; omega
  have pe0 : (d + 1 = e0) = False := by simp; omega
  refine gwp_heap (H' := fillKey (cut d G) e0 t0 [.box [.p (.bool a0.f0)]]) ?_ ?_
  · rw [fill_self (B := cut d G) (a := e0) (b := t0) (by rw [cut_app, if_pos he0]; exact hGt0)]
  generalize hQ : callPost _ _ _ _ _ = Q
  simp -implicitDefEqProofs only [go_sem, Nat.reduceEqDiff, Nat.reduceAdd, Nat.reduceLT, Nat.reduceLeDiff, Nat.reduceMul, Nat.reduceBEq, reduceIte, he0, le0, qe0, pe0]
  obtain ⟨v1, hz, h⟩ := bs h
  obtain ⟨R2, hR2⟩ : ∃ R : St → Prop, R = fun s => s.G = fillKey (fillKey (fillKey (fillKey (cut d G) e0 t0 [.box [.p (.bool a0.f0)]]) (d + 1) 4 [.box [.p (.int .i64 a1.f0), .p (.sl (a1.f1.f0.map cTRat)), .p (.int .i64 a1.f1.f1.f0), .p (.int .i64 a1.f1.f1.f1)]]) (d + 1) 5 [.box [.p (.int .i64 v1), .p (.int .i64 a2.f1)]]) (d + 1) 6 [.box [.p (.int .i64 0), .csl [], .p (.int .i64 0), .p (.int .i64 0)]] ∧ s.F 0 = .bp (e0, t0, 0) 0 ∧ s.F 4 = .bp (d + 1, 4, 0) 0 ∧ s.F 5 = .bp (d + 1, 5, 0) 0 ∧ s.F 6 = .bp (d + 1, 6, 0) 0 ∧ True := ⟨_, rfl⟩
  refine cutG R2 ?_ ?_
  · replace h := hz
    rcases ib h with ⟨c3, h⟩ | ⟨c3, h⟩
    · cases h
      simp -implicitDefEqProofs only [go_sem, Nat.reduceEqDiff, Nat.reduceAdd, Nat.reduceLT, Nat.reduceLeDiff, Nat.reduceMul, Nat.reduceBEq, reduceIte, he0, le0, qe0, pe0, c3]
      rw [hR2]
      simp -implicitDefEqProofs only [go_sem, Nat.reduceEqDiff, Nat.reduceAdd, Nat.reduceLT, Nat.reduceLeDiff, Nat.reduceMul, Nat.reduceBEq, reduceIte, he0, le0, qe0, pe0, c3]
    · cases h
      simp -implicitDefEqProofs only [go_sem, Nat.reduceEqDiff, Nat.reduceAdd, Nat.reduceLT, Nat.reduceLeDiff, Nat.reduceMul, Nat.reduceBEq, reduceIte, he0, le0, qe0, pe0, c3]
      rw [hR2]
      simp -implicitDefEqProofs only [go_sem, Nat.reduceEqDiff, Nat.reduceAdd, Nat.reduceLT, Nat.reduceLeDiff, Nat.reduceMul, Nat.reduceBEq, reduceIte, he0, le0, qe0, pe0, c3]
  · replace h := h; clear hz
    rintro s i
    rw [hR2] at i
    obtain ⟨gi4, i4⟩ := i
    clear hR2
    try dsimp only at h
    obtain ⟨r5, hr5, h⟩ := bs h
    simp -implicitDefEqProofs only [go_sem, Nat.reduceEqDiff, Nat.reduceAdd, Nat.reduceLT, Nat.reduceLeDiff, Nat.reduceMul, Nat.reduceBEq, reduceIte, he0, le0, qe0, pe0, gi4, i4]
    refine call_frz (r' := .tup [.agg [.p (.int .i64 r5.1.f0), .p (.int .i64 r5.1.f1)], .p (.int .i64 r5.2)]) (m_rat_Div_ev (⟨1, 1⟩ : TRat) (⟨v1, a2.f1⟩ : TRat) r5 hr5 (d + 1) empty) (by simp -implicitDefEqProofs only [go_sem, Nat.reduceEqDiff, Nat.reduceAdd, Nat.reduceLT, Nat.reduceLeDiff, Nat.reduceMul, Nat.reduceBEq, reduceIte, he0, le0, qe0, pe0, gi4, i4]) rfl (by simp -implicitDefEqProofs only [go_sem, Nat.reduceEqDiff, Nat.reduceAdd, Nat.reduceLT, Nat.reduceLeDiff, Nat.reduceMul, Nat.reduceBEq, reduceIte]) (by simp -implicitDefEqProofs only [go_sem, Nat.reduceEqDiff, Nat.reduceAdd, Nat.reduceLT, Nat.reduceLeDiff, Nat.reduceMul, Nat.reduceBEq, reduceIte]) ?_ rfl rfl
    obtain ⟨r6, hr6, h⟩ := bs h
    simp -implicitDefEqProofs only [go_sem, Nat.reduceEqDiff, Nat.reduceAdd, Nat.reduceLT, Nat.reduceLeDiff, Nat.reduceMul, Nat.reduceBEq, reduceIte, he0, le0, qe0, pe0, gi4, i4]
    refine call_open0 (t0 := 999) (r := .agg [.p (.int .i64 r6.1.f0), .p (.int .i64 r6.1.f1)]) (m_bound_engine_rat_ev a0 r5.1 r5.2 r6 hr6 (d + 1) _ e0 t0 (Nat.le_succ_of_le he0) (by simp -implicitDefEqProofs only [go_sem, Nat.reduceEqDiff, Nat.reduceAdd, Nat.reduceLT, Nat.reduceLeDiff, Nat.reduceMul, Nat.reduceBEq, reduceIte, he0, le0, qe0, pe0, gi4, i4]) ) (by simp -implicitDefEqProofs only [go_sem, Nat.reduceEqDiff, Nat.reduceAdd, Nat.reduceLT, Nat.reduceLeDiff, Nat.reduceMul, Nat.reduceBEq, reduceIte, he0, le0, qe0, pe0, gi4, i4]) rfl (by simp -implicitDefEqProofs only [go_sem, Nat.reduceEqDiff, Nat.reduceAdd, Nat.reduceLT, Nat.reduceLeDiff, Nat.reduceMul, Nat.reduceBEq, reduceIte, he0, le0, qe0, pe0, gi4, i4]) (by simp -implicitDefEqProofs only [go_sem, Nat.reduceEqDiff, Nat.reduceAdd, Nat.reduceLT, Nat.reduceLeDiff, Nat.reduceMul, Nat.reduceBEq, reduceIte, he0, le0, qe0, pe0, gi4, i4]) (by simp -implicitDefEqProofs only [go_sem, Nat.reduceEqDiff, Nat.reduceAdd, Nat.reduceLT, Nat.reduceLeDiff, Nat.reduceMul, Nat.reduceBEq, reduceIte]) ?_
    rcases ib h with ⟨c7, h⟩ | ⟨c7, h⟩
    · obtain ⟨r8, hr8, h⟩ := bs h
      simp -implicitDefEqProofs only [go_sem, Nat.reduceEqDiff, Nat.reduceAdd, Nat.reduceLT, Nat.reduceLeDiff, Nat.reduceMul, Nat.reduceBEq, reduceIte, he0, le0, qe0, pe0, gi4, i4, c7]
      refine call_frz (r' := .tup [.agg [.p (.sl (r8.1.f0.map cTRat)), .p (.int .i64 r8.1.f1.f0), .p (.int .i64 r8.1.f1.f1)], .p (.int .i64 r8.2)]) (m_term_Scale_ev a1.f1 r6.1 r8 hr8 (d + 1) empty) (by simp -implicitDefEqProofs only [go_sem, Nat.reduceEqDiff, Nat.reduceAdd, Nat.reduceLT, Nat.reduceLeDiff, Nat.reduceMul, Nat.reduceBEq, reduceIte, he0, le0, qe0, pe0, gi4, i4, c7]) rfl (by simp -implicitDefEqProofs only [go_sem, Nat.reduceEqDiff, Nat.reduceAdd, Nat.reduceLT, Nat.reduceLeDiff, Nat.reduceMul, Nat.reduceBEq, reduceIte]) (by simp -implicitDefEqProofs only [go_sem, Nat.reduceEqDiff, Nat.reduceAdd, Nat.reduceLT, Nat.reduceLeDiff, Nat.reduceMul, Nat.reduceBEq, reduceIte]) ?_ rfl rfl
      obtain ⟨r9, hr9, h⟩ := bs h
      simp -implicitDefEqProofs only [go_sem, Nat.reduceEqDiff, Nat.reduceAdd, Nat.reduceLT, Nat.reduceLeDiff, Nat.reduceMul, Nat.reduceBEq, reduceIte, he0, le0, qe0, pe0, gi4, i4, c7]
      refine call_open0 (t0 := 999) (r := .agg [.p (.sl (r9.1.f0.map cTRat)), .p (.int .i64 r9.1.f1.f0), .p (.int .i64 r9.1.f1.f1)]) (m_bound_engine_term_ev r6.2 r8.1 r8.2 r9 hr9 (d + 1) _ e0 t0 (Nat.le_succ_of_le he0) (by simp -implicitDefEqProofs only [go_sem, Nat.reduceEqDiff, Nat.reduceAdd, Nat.reduceLT, Nat.reduceLeDiff, Nat.reduceMul, Nat.reduceBEq, reduceIte, he0, le0, qe0, pe0, gi4, i4, c7]) ) (by simp -implicitDefEqProofs only [go_sem, Nat.reduceEqDiff, Nat.reduceAdd, Nat.reduceLT, Nat.reduceLeDiff, Nat.reduceMul, Nat.reduceBEq, reduceIte, he0, le0, qe0, pe0, gi4, i4, c7]) rfl (by simp -implicitDefEqProofs only [go_sem, Nat.reduceEqDiff, Nat.reduceAdd, Nat.reduceLT, Nat.reduceLeDiff, Nat.reduceMul, Nat.reduceBEq, reduceIte, he0, le0, qe0, pe0, gi4, i4, c7]) (by simp -implicitDefEqProofs only [go_sem, Nat.reduceEqDiff, Nat.reduceAdd, Nat.reduceLT, Nat.reduceLeDiff, Nat.reduceMul, Nat.reduceBEq, reduceIte, he0, le0, qe0, pe0, gi4, i4, c7]) (by simp -implicitDefEqProofs only [go_sem, Nat.reduceEqDiff, Nat.reduceAdd, Nat.reduceLT, Nat.reduceLeDiff, Nat.reduceMul, Nat.reduceBEq, reduceIte]) ?_
      cases h
      subst hQ
      simp -implicitDefEqProofs only [go_sem, Nat.reduceEqDiff, Nat.reduceAdd, Nat.reduceLT, Nat.reduceLeDiff, Nat.reduceMul, Nat.reduceBEq, reduceIte, he0, le0, qe0, pe0, gi4, i4, c7, Try.results70]
    · cases h
      subst hQ
      simp -implicitDefEqProofs only [go_sem, Nat.reduceEqDiff, Nat.reduceAdd, Nat.reduceLT, Nat.reduceLeDiff, Nat.reduceMul, Nat.reduceBEq, reduceIte, he0, le0, qe0, pe0, gi4, i4, c7, Try.results70]
theorem m_bound_engine_drop_ev (a0 : TBound_engine) (a1 : List TRow) (a2 : Int) (r0 : TBound_stage × (List TRow) × TBound_engine) (h : m_bound_engine_drop a0 a1 a2 = some r0) (d : Nat) (G : Heap) (e0 t0 : Nat) (he0 : e0 ≤ d) (hGt0 : G e0 t0 = [.box [.p (.bool a0.f0)]]) : Tel Try.prog TB d 39 [.bp (e0, t0, 0) 0, .p (.sl (a1.map cTRow)), .p (.int .i64 a2)] G (.tup [.agg ((cTBound_stage r0.1).map .p), .p (.sl (r0.2.1.map cTRow))]) (fillKey (G) e0 t0 ([.box [.p (.bool r0.2.2.f0)]])) := by
  unfold m_bound_engine_drop at h
  refine Tel.intro mix Try.func39 rfl (Nat.le_of_ble_eq_true rfl) {openAt := fun t => t == 40 || t == 53 || t == 107, drwAt := fun t => t == 40 || t == 53 || t == 107, frzAt := fun t => t == 26 || t == 104, watch := fun t => if t = 40 then [35] else if t = 53 then [48] else if t = 107 then [94, 96] else [], wkey := fun t => if t = 35 then some ((d + 1, 8, 0), 0) else if t = 48 then some ((d + 1, 8, 0), 1) else if t = 94 then some ((d + 1, 14, 0), 0) else if t = 96 then some ((d + 1, 16, 0), 0) else none, boxAt := fun t => if t = 11 then some 11 else if t = 12 then some 12 else if t = 35 then some 8 else if t = 43 then some 8 else if t = 48 then some 8 else if t = 56 then some 8 else if t = 94 then some 14 else if t = 96 then some 16 else if t = 100 then some 14 else if t = 102 then some 16 else if t = 1000042 then some 42 else if t = 1000055 then some 55 else none, clean := fun r => if r = 4 then [11, 12] else if r = 17 then [14, 16] else if r = 20 then [16] else []} (by kernel_rfl) (by kernel_rfl) ?_
  have le0 : (e0 ≤ d + 1) = True := by simp; omega
  have qe0 : (e0 = d + 1) = False := by simp; omega
  have pe0 : (d + 1 = e0) = False := by simp; omega
  refine gwp_heap (H' := fillKey (cut d G) e0 t0 [.box [.p (.bool a0.f0)]]) ?_ ?_
  · rw [fill_self (B := cut d G) (a := e0) (b := t0) (by rw [cut_app, if_pos he0]; exact hGt0)]
  generalize hQ : callPost _ _ _ _ _ = Q
  simp -implicitDefEqProofs only [go_sem, Nat.reduceEqDiff, Nat.reduceAdd, Nat.reduceLT, Nat.reduceLeDiff, Nat.reduceMul, Nat.reduceBEq, reduceIte, he0, le0, qe0, pe0]
  obtain ⟨z17, hL17, h⟩ := bs h
  obtain ⟨I17, hI17⟩ : ∃ I : ((List TRow) × Int × Bool × (List TRow) × (List TRow)) → St → Prop, I = fun a s => match a with | (v18, v20, v21, v22, v24) => ∃ o19 o23 o25, s.G = fillKey (fillKey (fillKey (fillKey (fillKey (fillKey (cut d G) e0 t0 [.box [.p (.bool v21)]]) (d + 1) 6 [.box [.csl [], .csl []]]) (d + 1) 8 [.box [growV o23 (d + 1) (v22.map cTRow), growV o25 (d + 1) (v24.map cTRow)]]) (d + 1) 30 (growO o19 30 4 (v18.map cTRow))) (d + 1) 42 (growO o23 42 4 (v22.map cTRow))) (d + 1) 55 (growO o25 55 4 (v24.map cTRow)) ∧ growOK o19 [30] ∧ growOK o23 [42] ∧ growOK o25 [55] ∧ s.F 0 = .bp (e0, t0, 0) 0 ∧ s.F 2 = .p (.int .i64 a2) ∧ s.F 6 = .bp (d + 1, 6, 0) 0 ∧ s.F 8 = .bp (d + 1, 8, 0) 0 ∧ s.F 9 = growV o19 (d + 1) (v18.map cTRow) ∧ s.F 17 = .p (.sl (a1.map cTRow)) ∧ s.F 18 = .p (.int .i64 (a1.length : Int)) ∧ s.F 19 = .p (.int .i64 v20) ∧ True := ⟨_, rfl⟩
  obtain ⟨R17, hR17⟩ : ∃ R : ((List TRow) × Bool × (List TRow) × (List TRow)) → GE → St → Prop, R = fun x e s => match x with | (v26, v28, v29, v31) => e = .exit 0 ∧ (∃ o27 o30 o32, s.G = fillKey (fillKey (fillKey (fillKey (fillKey (fillKey (cut d G) e0 t0 [.box [.p (.bool v28)]]) (d + 1) 6 [.box [.csl [], .csl []]]) (d + 1) 8 [.box [growV o30 (d + 1) (v29.map cTRow), growV o32 (d + 1) (v31.map cTRow)]]) (d + 1) 30 (growO o27 30 4 (v26.map cTRow))) (d + 1) 42 (growO o30 42 4 (v29.map cTRow))) (d + 1) 55 (growO o32 55 4 (v31.map cTRow)) ∧ growOK o27 [30] ∧ growOK o30 [42] ∧ growOK o32 [55] ∧ s.F 0 = .bp (e0, t0, 0) 0 ∧ s.F 6 = .bp (d + 1, 6, 0) 0 ∧ s.F 8 = .bp (d + 1, 8, 0) 0 ∧ s.F 9 = growV o27 (d + 1) (v26.map cTRow) ∧ True) := ⟨_, rfl⟩
  refine lp (ts := [11, 12]) rfl hL17 I17 R17 ?_ ?_ ?_
  · rw [hI17]
    refine ⟨none, none, none, ?_⟩
    simp -implicitDefEqProofs only [go_sem, Nat.reduceEqDiff, Nat.reduceAdd, Nat.reduceLT, Nat.reduceLeDiff, Nat.reduceMul, Nat.reduceBEq, reduceIte, he0, le0, qe0, pe0]
  · clear h hL17
    rintro ⟨v18, v20, v21, v22, v24⟩ y s h i
    rw [hI17] at i
    obtain ⟨o19, o23, o25, gi17, ko19, ko23, ko25, i17⟩ := i
    replace h : m_bound_engine_drop_L0 a1 a2 (v18, v20, v21, v22, v24) = some y := h
    unfold m_bound_engine_drop_L0 at h
    rcases ib h with ⟨c33, h⟩ | ⟨c33, h⟩
    · obtain ⟨v34, hv34, h⟩ := bs h
      replace hv34 := gis hv34
      obtain ⟨r35, hr35, h⟩ := bs h
      simp -implicitDefEqProofs only [go_sem, Nat.reduceEqDiff, Nat.reduceAdd, Nat.reduceLT, Nat.reduceLeDiff, Nat.reduceMul, Nat.reduceBEq, reduceIte, he0, le0, qe0, pe0, gi17, ko19, ko23, ko25, i17, c33, hv34]
      refine call_frz (r' := .agg [.p (.int .i64 r35.f0), .p (.int .i64 r35.f1)]) (m_term_At_ev v34.f1 a2 r35 hr35 (d + 1) empty) (by simp -implicitDefEqProofs only [go_sem, Nat.reduceEqDiff, Nat.reduceAdd, Nat.reduceLT, Nat.reduceLeDiff, Nat.reduceMul, Nat.reduceBEq, reduceIte, he0, le0, qe0, pe0, gi17, ko19, ko23, ko25, i17, c33, hv34]) rfl (by simp -implicitDefEqProofs only [go_sem, Nat.reduceEqDiff, Nat.reduceAdd, Nat.reduceLT, Nat.reduceLeDiff, Nat.reduceMul, Nat.reduceBEq, reduceIte]) (by simp -implicitDefEqProofs only [go_sem, Nat.reduceEqDiff, Nat.reduceAdd, Nat.reduceLT, Nat.reduceLeDiff, Nat.reduceMul, Nat.reduceBEq, reduceIte]) ?_ rfl rfl
      simp -implicitDefEqProofs only [go_sem, Nat.reduceEqDiff, Nat.reduceAdd, Nat.reduceLT, Nat.reduceLeDiff, Nat.reduceMul, Nat.reduceBEq, reduceIte, he0, le0, qe0, pe0, gi17, ko19, ko23, ko25, i17, c33, hv34]
      obtain ⟨⟨v36, v38, v39, v41⟩, hz, h⟩ := bs h
      obtain ⟨R43, hR43⟩ : ∃ R : St → Prop, R = fun s => ∃ o37 o40 o42, s.G = fillKey (fillKey (fillKey (fillKey (fillKey (fillKey (fillKey (fillKey (cut d G) e0 t0 [.box [.p (.bool v38)]]) (d + 1) 6 [.box [.csl [], .csl []]]) (d + 1) 8 [.box [growV o40 (d + 1) (v39.map cTRow), growV o42 (d + 1) (v41.map cTRow)]]) (d + 1) 11 [.box [.p (.int .i64 v34.f0), .p (.sl (v34.f1.f0.map cTRat)), .p (.int .i64 v34.f1.f1.f0), .p (.int .i64 v34.f1.f1.f1)]]) (d + 1) 12 [.box [.p (.int .i64 r35.f0), .p (.int .i64 r35.f1)]]) (d + 1) 30 (growO o37 30 4 (v36.map cTRow))) (d + 1) 42 (growO o40 42 4 (v39.map cTRow))) (d + 1) 55 (growO o42 55 4 (v41.map cTRow)) ∧ growOK o37 [30] ∧ growOK o40 [42] ∧ growOK o42 [55] ∧ s.F 0 = .bp (e0, t0, 0) 0 ∧ s.F 2 = .p (.int .i64 a2) ∧ s.F 6 = .bp (d + 1, 6, 0) 0 ∧ s.F 8 = .bp (d + 1, 8, 0) 0 ∧ s.F 9 = growV o37 (d + 1) (v36.map cTRow) ∧ s.F 17 = .p (.sl (a1.map cTRow)) ∧ s.F 18 = .p (.int .i64 (a1.length : Int)) ∧ s.F 19 = .p (.int .i64 v20) ∧ True := ⟨_, rfl⟩
      refine cutG R43 ?_ ?_
      · replace h := hz
        rcases ib h with ⟨c44, h⟩ | ⟨c44, h⟩
        · obtain ⟨r45, hr45, h⟩ := bs h
          simp -implicitDefEqProofs only [go_sem, Nat.reduceEqDiff, Nat.reduceAdd, Nat.reduceLT, Nat.reduceLeDiff, Nat.reduceMul, Nat.reduceBEq, reduceIte, he0, le0, qe0, pe0, gi17, ko19, ko23, ko25, i17, c33, hv34, c44]
          refine call_drwL (t0 := 999) (r := .agg [.p (.int .i64 r45.1.f0), .p (.sl (r45.1.f1.f0.map cTRat)), .p (.int .i64 r45.1.f1.f1.f0), .p (.int .i64 r45.1.f1.f1.f1)]) [(e0, t0, [.box [.p (.bool r45.2.f0)]])] (fun H => m_bound_engine_divide_ev (⟨v21⟩ : TBound_engine) v34 r35 r45 hr45 (d + 1) _ e0 t0 (Nat.le_succ_of_le he0) (by simp -implicitDefEqProofs only [go_sem, Nat.reduceEqDiff, Nat.reduceAdd, Nat.reduceLT, Nat.reduceLeDiff, Nat.reduceMul, Nat.reduceBEq, reduceIte, he0, le0, qe0, pe0, gi17, ko19, ko23, ko25, i17, c33, hv34, c44]) ) (by simp -implicitDefEqProofs only [go_sem, Nat.reduceEqDiff, Nat.reduceAdd, Nat.reduceLT, Nat.reduceLeDiff, Nat.reduceMul, Nat.reduceBEq, reduceIte, he0, le0, qe0, pe0, gi17, ko19, ko23, ko25, i17, c33, hv34, c44]) rfl (by simp -implicitDefEqProofs only [go_sem, Nat.reduceEqDiff, Nat.reduceAdd, Nat.reduceLT, Nat.reduceLeDiff, Nat.reduceMul, Nat.reduceBEq, reduceIte, he0, le0, qe0, pe0, gi17, ko19, ko23, ko25, i17, c33, hv34, c44]) (by simp -implicitDefEqProofs only [go_sem, Nat.reduceEqDiff, Nat.reduceAdd, Nat.reduceLT, Nat.reduceLeDiff, Nat.reduceMul, Nat.reduceBEq, reduceIte, he0, le0, qe0, pe0, gi17, ko19, ko23, ko25, i17, c33, hv34, c44]) (by simp -implicitDefEqProofs only [go_sem, Nat.reduceEqDiff, Nat.reduceAdd, Nat.reduceLT, Nat.reduceLeDiff, Nat.reduceMul, Nat.reduceBEq, reduceIte]) (by simp -implicitDefEqProofs only [go_sem, Nat.reduceEqDiff, Nat.reduceAdd, Nat.reduceLT, Nat.reduceLeDiff, Nat.reduceMul, Nat.reduceBEq, reduceIte, he0, le0, qe0, pe0, gi17, ko19, ko23, ko25, i17, c33, hv34, c44]) (by simp -implicitDefEqProofs only [go_sem, Nat.reduceEqDiff, Nat.reduceAdd, Nat.reduceLT, Nat.reduceLeDiff, Nat.reduceMul, Nat.reduceBEq, reduceIte, he0, le0, qe0, pe0, gi17, ko19, ko23, ko25, i17, c33, hv34, c44]) (fun x hx => by simp only [go_sem, reduceIte, Nat.reduceEqDiff, List.mem_cons, List.not_mem_nil, or_false] at hx; rcases hx with rfl <;> first | exact ⟨(d + 1, 8, 0), 0, rfl, by simp -implicitDefEqProofs only [go_sem, Nat.reduceEqDiff, Nat.reduceAdd, Nat.reduceLT, Nat.reduceLeDiff, Nat.reduceMul, Nat.reduceBEq, reduceIte, he0, le0, qe0, pe0, gi17, ko19, ko23, ko25, i17, c33, hv34, c44], [growV o23 (d + 1) (v22.map cTRow), growV o25 (d + 1) (v24.map cTRow)], [growV o23 (d + 1) (v22.map cTRow), growV o25 (d + 1) (v24.map cTRow)], by simp -implicitDefEqProofs only [go_sem, Nat.reduceEqDiff, Nat.reduceAdd, Nat.reduceLT, Nat.reduceLeDiff, Nat.reduceMul, Nat.reduceBEq, reduceIte, he0, le0, qe0, pe0, gi17, ko19, ko23, ko25, i17, c33, hv34, c44], by simp -implicitDefEqProofs only [go_sem, Nat.reduceEqDiff, Nat.reduceAdd, Nat.reduceLT, Nat.reduceLeDiff, Nat.reduceMul, Nat.reduceBEq, reduceIte, he0, le0, qe0, pe0, gi17, ko19, ko23, ko25, i17, c33, hv34, c44], by simp -implicitDefEqProofs only [go_sem, Nat.reduceEqDiff, Nat.reduceAdd, Nat.reduceLT, Nat.reduceLeDiff, Nat.reduceMul, Nat.reduceBEq, reduceIte, he0, le0, qe0, pe0, gi17, ko19, ko23, ko25, i17, c33, hv34, c44]⟩) (by simp -implicitDefEqProofs only [go_sem, Nat.reduceEqDiff, Nat.reduceAdd, Nat.reduceLT, Nat.reduceLeDiff, Nat.reduceMul, Nat.reduceBEq, reduceIte]) ?_
          obtain ⟨_, c46, h⟩ := bs h
          replace c46 := rqs c46
          simp -implicitDefEqProofs only [go_sem, Nat.reduceEqDiff, Nat.reduceAdd, Nat.reduceLT, Nat.reduceLeDiff, Nat.reduceMul, Nat.reduceBEq, reduceIte, he0, le0, qe0, pe0, gi17, ko19, ko23, ko25, i17, c33, hv34, c44, c46, appG_grow (k := 42) ko23, appG_grow_p (k := 42) ko23]
          refine append_G (o := o23) (ts := [42]) (es := (v22 : List TRow).map cTRow) (xs := ([r45.1] : List TRow).map cTRow) (ho := growOK.sub ko23 (by decide)) (hG := by simp -implicitDefEqProofs only [go_sem, Nat.reduceEqDiff, Nat.reduceAdd, Nat.reduceLT, Nat.reduceLeDiff, Nat.reduceMul, Nat.reduceBEq, reduceIte, he0, le0, qe0, pe0, gi17, ko19, ko23, ko25, i17, c33, hv34, c44, c46]) (hj := by simp -implicitDefEqProofs only [go_sem, Nat.reduceEqDiff, Nat.reduceAdd, Nat.reduceLT, Nat.reduceLeDiff, Nat.reduceMul, Nat.reduceBEq, reduceIte]) (he := el22) (hx := by simp -implicitDefEqProofs only [go_sem, Nat.reduceEqDiff, Nat.reduceAdd, Nat.reduceLT, Nat.reduceLeDiff, Nat.reduceMul, Nat.reduceBEq, reduceIte, he0, le0, qe0, pe0, gi17, ko19, ko23, ko25, i17, c33, hv34, c44, c46]) (h1 := by simp -implicitDefEqProofs only [go_sem, Nat.reduceEqDiff, Nat.reduceAdd, Nat.reduceLT, Nat.reduceLeDiff, Nat.reduceMul, Nat.reduceBEq, reduceIte]) (h2 := by simp -implicitDefEqProofs only [go_sem, Nat.reduceEqDiff, Nat.reduceAdd, Nat.reduceLT, Nat.reduceLeDiff, Nat.reduceMul, Nat.reduceBEq, reduceIte]) (ha := rfl) (hra := rfl) (hb := by simpa using c46) (hbb := by decide) ?_
          intro o47 ko47
          cases h
          simp -implicitDefEqProofs only [go_sem, Nat.reduceEqDiff, Nat.reduceAdd, Nat.reduceLT, Nat.reduceLeDiff, Nat.reduceMul, Nat.reduceBEq, reduceIte, he0, le0, qe0, pe0, gi17, ko19, ko23, ko25, i17, c33, hv34, c44, c46, ko47]
          rw [hR43]
          refine ⟨o19, o47, o25, ?_⟩
          simp -implicitDefEqProofs only [go_sem, Nat.reduceEqDiff, Nat.reduceAdd, Nat.reduceLT, Nat.reduceLeDiff, Nat.reduceMul, Nat.reduceBEq, reduceIte, he0, le0, qe0, pe0, gi17, ko19, ko23, ko25, i17, c33, hv34, c44, c46, ko47]
        · simp -implicitDefEqProofs only [go_sem, Nat.reduceEqDiff, Nat.reduceAdd, Nat.reduceLT, Nat.reduceLeDiff, Nat.reduceMul, Nat.reduceBEq, reduceIte, he0, le0, qe0, pe0, gi17, ko19, ko23, ko25, i17, c33, hv34, c44]
          obtain ⟨⟨v48, v50, v51⟩, hz, h⟩ := bs h
          obtain ⟨R53, hR53⟩ : ∃ R : St → Prop, R = fun s => ∃ o49 o52, s.G = fillKey (fillKey (fillKey (fillKey (fillKey (fillKey (fillKey (fillKey (cut d G) e0 t0 [.box [.p (.bool v50)]]) (d + 1) 6 [.box [.csl [], .csl []]]) (d + 1) 8 [.box [growV o23 (d + 1) (v22.map cTRow), growV o52 (d + 1) (v51.map cTRow)]]) (d + 1) 11 [.box [.p (.int .i64 v34.f0), .p (.sl (v34.f1.f0.map cTRat)), .p (.int .i64 v34.f1.f1.f0), .p (.int .i64 v34.f1.f1.f1)]]) (d + 1) 12 [.box [.p (.int .i64 r35.f0), .p (.int .i64 r35.f1)]]) (d + 1) 30 (growO o49 30 4 (v48.map cTRow))) (d + 1) 42 (growO o23 42 4 (v22.map cTRow))) (d + 1) 55 (growO o52 55 4 (v51.map cTRow)) ∧ growOK o49 [30] ∧ growOK o52 [55] ∧ s.F 0 = .bp (e0, t0, 0) 0 ∧ s.F 2 = .p (.int .i64 a2) ∧ s.F 6 = .bp (d + 1, 6, 0) 0 ∧ s.F 8 = .bp (d + 1, 8, 0) 0 ∧ s.F 9 = growV o49 (d + 1) (v48.map cTRow) ∧ s.F 17 = .p (.sl (a1.map cTRow)) ∧ s.F 18 = .p (.int .i64 (a1.length : Int)) ∧ s.F 19 = .p (.int .i64 v20) ∧ True := ⟨_, rfl⟩
          refine cutG R53 ?_ ?_
          · replace h := hz
            rcases ib h with ⟨c54, h⟩ | ⟨c54, h⟩
            · obtain ⟨r55, hr55, h⟩ := bs h
              simp -implicitDefEqProofs only [go_sem, Nat.reduceEqDiff, Nat.reduceAdd, Nat.reduceLT, Nat.reduceLeDiff, Nat.reduceMul, Nat.reduceBEq, reduceIte, he0, le0, qe0, pe0, gi17, ko19, ko23, ko25, i17, c33, hv34, c44, c54]
              refine call_drwL (t0 := 999) (r := .agg [.p (.int .i64 r55.1.f0), .p (.sl (r55.1.f1.f0.map cTRat)), .p (.int .i64 r55.1.f1.f1.f0), .p (.int .i64 r55.1.f1.f1.f1)]) [(e0, t0, [.box [.p (.bool r55.2.f0)]])] (fun H => m_bound_engine_divide_ev (⟨v21⟩ : TBound_engine) v34 r35 r55 hr55 (d + 1) _ e0 t0 (Nat.le_succ_of_le he0) (by simp -implicitDefEqProofs only [go_sem, Nat.reduceEqDiff, Nat.reduceAdd, Nat.reduceLT, Nat.reduceLeDiff, Nat.reduceMul, Nat.reduceBEq, reduceIte, he0, le0, qe0, pe0, gi17, ko19, ko23, ko25, i17, c33, hv34, c44, c54]) ) (by simp -implicitDefEqProofs only [go_sem, Nat.reduceEqDiff, Nat.reduceAdd, Nat.reduceLT, Nat.reduceLeDiff, Nat.reduceMul, Nat.reduceBEq, reduceIte, he0, le0, qe0, pe0, gi17, ko19, ko23, ko25, i17, c33, hv34, c44, c54]) rfl (by simp -implicitDefEqProofs only [go_sem, Nat.reduceEqDiff, Nat.reduceAdd, Nat.reduceLT, Nat.reduceLeDiff, Nat.reduceMul, Nat.reduceBEq, reduceIte, he0, le0, qe0, pe0, gi17, ko19, ko23, ko25, i17, c33, hv34, c44, c54]) (by simp -implicitDefEqProofs only [go_sem, Nat.reduceEqDiff, Nat.reduceAdd, Nat.reduceLT, Nat.reduceLeDiff, Nat.reduceMul, Nat.reduceBEq, reduceIte, he0, le0, qe0, pe0, gi17, ko19, ko23, ko25, i17, c33, hv34, c44, c54]) (by simp -implicitDefEqProofs only [go_sem, Nat.reduceEqDiff, Nat.reduceAdd, Nat.reduceLT, Nat.reduceLeDiff, Nat.reduceMul, Nat.reduceBEq, reduceIte]) (by simp -implicitDefEqProofs only [go_sem, Nat.reduceEqDiff, Nat.reduceAdd, Nat.reduceLT, Nat.reduceLeDiff, Nat.reduceMul, Nat.reduceBEq, reduceIte, he0, le0, qe0, pe0, gi17, ko19, ko23, ko25, i17, c33, hv34, c44, c54]) (by simp -implicitDefEqProofs only [go_sem, Nat.reduceEqDiff, Nat.reduceAdd, Nat.reduceLT, Nat.reduceLeDiff, Nat.reduceMul, Nat.reduceBEq, reduceIte, he0, le0, qe0, pe0, gi17, ko19, ko23, ko25, i17, c33, hv34, c44, c54]) (fun x hx => by simp only [go_sem, reduceIte, Nat.reduceEqDiff, List.mem_cons, List.not_mem_nil, or_false] at hx; rcases hx with rfl <;> first | exact ⟨(d + 1, 8, 0), 1, rfl, by simp -implicitDefEqProofs only [go_sem, Nat.reduceEqDiff, Nat.reduceAdd, Nat.reduceLT, Nat.reduceLeDiff, Nat.reduceMul, Nat.reduceBEq, reduceIte, he0, le0, qe0, pe0, gi17, ko19, ko23, ko25, i17, c33, hv34, c44, c54], [growV o23 (d + 1) (v22.map cTRow), growV o25 (d + 1) (v24.map cTRow)], [growV o23 (d + 1) (v22.map cTRow), growV o25 (d + 1) (v24.map cTRow)], by simp -implicitDefEqProofs only [go_sem, Nat.reduceEqDiff, Nat.reduceAdd, Nat.reduceLT, Nat.reduceLeDiff, Nat.reduceMul, Nat.reduceBEq, reduceIte, he0, le0, qe0, pe0, gi17, ko19, ko23, ko25, i17, c33, hv34, c44, c54], by simp -implicitDefEqProofs only [go_sem, Nat.reduceEqDiff, Nat.reduceAdd, Nat.reduceLT, Nat.reduceLeDiff, Nat.reduceMul, Nat.reduceBEq, reduceIte, he0, le0, qe0, pe0, gi17, ko19, ko23, ko25, i17, c33, hv34, c44, c54], by simp -implicitDefEqProofs only [go_sem, Nat.reduceEqDiff, Nat.reduceAdd, Nat.reduceLT, Nat.reduceLeDiff, Nat.reduceMul, Nat.reduceBEq, reduceIte, he0, le0, qe0, pe0, gi17, ko19, ko23, ko25, i17, c33, hv34, c44, c54]⟩) (by simp -implicitDefEqProofs only [go_sem, Nat.reduceEqDiff, Nat.reduceAdd, Nat.reduceLT, Nat.reduceLeDiff, Nat.reduceMul, Nat.reduceBEq, reduceIte]) ?_
              obtain ⟨_, c56, h⟩ := bs h
              replace c56 := rqs c56
              simp -implicitDefEqProofs only [go_sem, Nat.reduceEqDiff, Nat.reduceAdd, Nat.reduceLT, Nat.reduceLeDiff, Nat.reduceMul, Nat.reduceBEq, reduceIte, he0, le0, qe0, pe0, gi17, ko19, ko23, ko25, i17, c33, hv34, c44, c54, c56, appG_grow (k := 55) ko25, appG_grow_p (k := 55) ko25]
              refine append_G (o := o25) (ts := [55]) (es := (v24 : List TRow).map cTRow) (xs := ([r55.1] : List TRow).map cTRow) (ho := growOK.sub ko25 (by decide)) (hG := by simp -implicitDefEqProofs only [go_sem, Nat.reduceEqDiff, Nat.reduceAdd, Nat.reduceLT, Nat.reduceLeDiff, Nat.reduceMul, Nat.reduceBEq, reduceIte, he0, le0, qe0, pe0, gi17, ko19, ko23, ko25, i17, c33, hv34, c44, c54, c56]) (hj := by simp -implicitDefEqProofs only [go_sem, Nat.reduceEqDiff, Nat.reduceAdd, Nat.reduceLT, Nat.reduceLeDiff, Nat.reduceMul, Nat.reduceBEq, reduceIte]) (he := el22) (hx := by simp -implicitDefEqProofs only [go_sem, Nat.reduceEqDiff, Nat.reduceAdd, Nat.reduceLT, Nat.reduceLeDiff, Nat.reduceMul, Nat.reduceBEq, reduceIte, he0, le0, qe0, pe0, gi17, ko19, ko23, ko25, i17, c33, hv34, c44, c54, c56]) (h1 := by simp -implicitDefEqProofs only [go_sem, Nat.reduceEqDiff, Nat.reduceAdd, Nat.reduceLT, Nat.reduceLeDiff, Nat.reduceMul, Nat.reduceBEq, reduceIte]) (h2 := by simp -implicitDefEqProofs only [go_sem, Nat.reduceEqDiff, Nat.reduceAdd, Nat.reduceLT, Nat.reduceLeDiff, Nat.reduceMul, Nat.reduceBEq, reduceIte]) (ha := rfl) (hra := rfl) (hb := by simpa using c56) (hbb := by decide) ?_
              intro o57 ko57
              cases h
              simp -implicitDefEqProofs only [go_sem, Nat.reduceEqDiff, Nat.reduceAdd, Nat.reduceLT, Nat.reduceLeDiff, Nat.reduceMul, Nat.reduceBEq, reduceIte, he0, le0, qe0, pe0, gi17, ko19, ko23, ko25, i17, c33, hv34, c44, c54, c56, ko57]
              rw [hR53]
              refine ⟨o19, o57, ?_⟩
              simp -implicitDefEqProofs only [go_sem, Nat.reduceEqDiff, Nat.reduceAdd, Nat.reduceLT, Nat.reduceLeDiff, Nat.reduceMul, Nat.reduceBEq, reduceIte, he0, le0, qe0, pe0, gi17, ko19, ko23, ko25, i17, c33, hv34, c44, c54, c56, ko57]
            · obtain ⟨_, c58, h⟩ := bs h
              replace c58 := rqs c58
              simp -implicitDefEqProofs only [go_sem, Nat.reduceEqDiff, Nat.reduceAdd, Nat.reduceLT, Nat.reduceLeDiff, Nat.reduceMul, Nat.reduceBEq, reduceIte, he0, le0, qe0, pe0, gi17, ko19, ko23, ko25, i17, c33, hv34, c44, c54, c58]
              refine append_G (o := o19) (ts := [30]) (es := (v18 : List TRow).map cTRow) (xs := ([v34] : List TRow).map cTRow) (ho := growOK.sub ko19 (by decide)) (hG := by simp -implicitDefEqProofs only [go_sem, Nat.reduceEqDiff, Nat.reduceAdd, Nat.reduceLT, Nat.reduceLeDiff, Nat.reduceMul, Nat.reduceBEq, reduceIte, he0, le0, qe0, pe0, gi17, ko19, ko23, ko25, i17, c33, hv34, c44, c54, c58]) (hj := by simp -implicitDefEqProofs only [go_sem, Nat.reduceEqDiff, Nat.reduceAdd, Nat.reduceLT, Nat.reduceLeDiff, Nat.reduceMul, Nat.reduceBEq, reduceIte]) (he := el22) (hx := by simp -implicitDefEqProofs only [go_sem, Nat.reduceEqDiff, Nat.reduceAdd, Nat.reduceLT, Nat.reduceLeDiff, Nat.reduceMul, Nat.reduceBEq, reduceIte, he0, le0, qe0, pe0, gi17, ko19, ko23, ko25, i17, c33, hv34, c44, c54, c58]) (h1 := by simp -implicitDefEqProofs only [go_sem, Nat.reduceEqDiff, Nat.reduceAdd, Nat.reduceLT, Nat.reduceLeDiff, Nat.reduceMul, Nat.reduceBEq, reduceIte]) (h2 := by simp -implicitDefEqProofs only [go_sem, Nat.reduceEqDiff, Nat.reduceAdd, Nat.reduceLT, Nat.reduceLeDiff, Nat.reduceMul, Nat.reduceBEq, reduceIte]) (ha := rfl) (hra := rfl) (hb := by simpa using c58) (hbb := by decide) ?_
              intro o59 ko59
              cases h
              simp -implicitDefEqProofs only [go_sem, Nat.reduceEqDiff, Nat.reduceAdd, Nat.reduceLT, Nat.reduceLeDiff, Nat.reduceMul, Nat.reduceBEq, reduceIte, he0, le0, qe0, pe0, gi17, ko19, ko23, ko25, i17, c33, hv34, c44, c54, c58, ko59]
              rw [hR53]
              refine ⟨o59, o25, ?_⟩
              simp -implicitDefEqProofs only [go_sem, Nat.reduceEqDiff, Nat.reduceAdd, Nat.reduceLT, Nat.reduceLeDiff, Nat.reduceMul, Nat.reduceBEq, reduceIte, he0, le0, qe0, pe0, gi17, ko19, ko23, ko25, i17, c33, hv34, c44, c54, c58, ko59]
          · replace h := h; clear hz
            rintro s i
            rw [hR53] at i
            obtain ⟨o49, o52, gi60, ko49, ko52, i60⟩ := i
            clear hR53
            try dsimp only at h
            cases h
            simp -implicitDefEqProofs only [go_sem, Nat.reduceEqDiff, Nat.reduceAdd, Nat.reduceLT, Nat.reduceLeDiff, Nat.reduceMul, Nat.reduceBEq, reduceIte, he0, le0, qe0, pe0, gi17, ko19, ko23, ko25, i17, c33, hv34, c44, gi60, ko49, ko52, i60]
            rw [hR43]
            refine ⟨o49, o23, o52, ?_⟩
            simp -implicitDefEqProofs only [go_sem, Nat.reduceEqDiff, Nat.reduceAdd, Nat.reduceLT, Nat.reduceLeDiff, Nat.reduceMul, Nat.reduceBEq, reduceIte, he0, le0, qe0, pe0, gi17, ko19, ko23, ko25, i17, c33, hv34, c44, gi60, ko49, ko52, i60]
      · replace h := h; clear hz
        rintro s i
        rw [hR43] at i
        obtain ⟨o37, o40, o42, gi61, ko37, ko40, ko42, i61⟩ := i
        clear hR43
        try dsimp only at h
        cases h
        simp -implicitDefEqProofs only [go_sem, Nat.reduceEqDiff, Nat.reduceAdd, Nat.reduceLT, Nat.reduceLeDiff, Nat.reduceMul, Nat.reduceBEq, reduceIte, he0, le0, qe0, pe0, gi17, ko19, ko23, ko25, i17, c33, hv34, gi61, ko37, ko40, ko42, i61]
        rw [hI17]
        refine ⟨o37, o40, o42, ?_⟩
        simp -implicitDefEqProofs only [go_sem, Nat.reduceEqDiff, Nat.reduceAdd, Nat.reduceLT, Nat.reduceLeDiff, Nat.reduceMul, Nat.reduceBEq, reduceIte, he0, le0, qe0, pe0, gi17, ko19, ko23, ko25, i17, c33, hv34, gi61, ko37, ko40, ko42, i61, poison_grow (d := d + 1) (ts := [11, 12]) ko37 (by decide), poison_grow (d := d + 1) (ts := [11, 12]) ko40 (by decide), poison_grow (d := d + 1) (ts := [11, 12]) ko42 (by decide)]
    · cases h
      simp -implicitDefEqProofs only [go_sem, Nat.reduceEqDiff, Nat.reduceAdd, Nat.reduceLT, Nat.reduceLeDiff, Nat.reduceMul, Nat.reduceBEq, reduceIte, he0, le0, qe0, pe0, gi17, ko19, ko23, ko25, i17, c33]
      rw [hR17]
      first | refine ⟨rfl, o19, o23, o25, ?_⟩ | refine ⟨(), rfl, o19, o23, o25, ?_⟩
      simp -implicitDefEqProofs only [go_sem, Nat.reduceEqDiff, Nat.reduceAdd, Nat.reduceLT, Nat.reduceLeDiff, Nat.reduceMul, Nat.reduceBEq, reduceIte, he0, le0, qe0, pe0, gi17, ko19, ko23, ko25, i17, c33]
  · clear hL17 hI17
    intro e s hr17
    rw [hR17] at hr17
    clear hR17
    rcases z17 with ⟨v26, v28, v29, v31⟩
    try dsimp only at h hr17
    obtain ⟨rfl, o27, o30, o32, gi62, ko27, ko30, ko32, i62⟩ := hr17
    simp -implicitDefEqProofs only [go_sem, Nat.reduceEqDiff, Nat.reduceAdd, Nat.reduceLT, Nat.reduceLeDiff, Nat.reduceMul, Nat.reduceBEq, reduceIte, he0, le0, qe0, pe0, gi62, ko27, ko30, ko32, i62]
    obtain ⟨v63, hz, h⟩ := bs h
    obtain ⟨R64, hR64⟩ : ∃ R : St → Prop, R = fun s => s.G = fillKey (fillKey (fillKey (fillKey (fillKey (fillKey (cut d G) e0 t0 [.box [.p (.bool v28)]]) (d + 1) 6 [.box [.csl [], .csl []]]) (d + 1) 8 [.box [growV o30 (d + 1) (v29.map cTRow), growV o32 (d + 1) (v31.map cTRow)]]) (d + 1) 30 (growO o27 30 4 (v26.map cTRow))) (d + 1) 42 (growO o30 42 4 (v29.map cTRow))) (d + 1) 55 (growO o32 55 4 (v31.map cTRow)) ∧ s.F 0 = .bp (e0, t0, 0) 0 ∧ s.F 6 = .bp (d + 1, 6, 0) 0 ∧ s.F 8 = .bp (d + 1, 8, 0) 0 ∧ s.F 9 = growV o27 (d + 1) (v26.map cTRow) ∧ s.F 74 = .p (.bool v63) ∧ True := ⟨_, rfl⟩
    refine cutR R64 ?_ ?_
    · replace h := hz
      rcases ib h with ⟨c65, h⟩ | ⟨c65, h⟩
      · cases h
        simp -implicitDefEqProofs only [go_sem, Nat.reduceEqDiff, Nat.reduceAdd, Nat.reduceLT, Nat.reduceLeDiff, Nat.reduceMul, Nat.reduceBEq, reduceIte, he0, le0, qe0, pe0, gi62, ko27, ko30, ko32, i62, c65]
        rw [hR64]
        simp -implicitDefEqProofs only [go_sem, Nat.reduceEqDiff, Nat.reduceAdd, Nat.reduceLT, Nat.reduceLeDiff, Nat.reduceMul, Nat.reduceBEq, reduceIte, he0, le0, qe0, pe0, gi62, ko27, ko30, ko32, i62, c65]
      · cases h
        simp -implicitDefEqProofs only [go_sem, Nat.reduceEqDiff, Nat.reduceAdd, Nat.reduceLT, Nat.reduceLeDiff, Nat.reduceMul, Nat.reduceBEq, reduceIte, he0, le0, qe0, pe0, gi62, ko27, ko30, ko32, i62, c65]
        rw [hR64]
        simp -implicitDefEqProofs only [go_sem, Nat.reduceEqDiff, Nat.reduceAdd, Nat.reduceLT, Nat.reduceLeDiff, Nat.reduceMul, Nat.reduceBEq, reduceIte, he0, le0, qe0, pe0, gi62, ko27, ko30, ko32, i62, c65]
    · replace h := h; clear hz
      rintro s i
      rw [hR64] at i
      obtain ⟨gi66, i66⟩ := i
      clear hR64
      try dsimp only at h
      rcases ib h with ⟨c67, h⟩ | ⟨c67, h⟩
      · cases h
        subst hQ
        simp -implicitDefEqProofs only [go_sem, Nat.reduceEqDiff, Nat.reduceAdd, Nat.reduceLT, Nat.reduceLeDiff, Nat.reduceMul, Nat.reduceBEq, reduceIte, he0, le0, qe0, pe0, gi62, ko27, ko30, ko32, i62, gi66, i66, c67, Try.results39]
      · simp -implicitDefEqProofs only [go_sem, Nat.reduceEqDiff, Nat.reduceAdd, Nat.reduceLT, Nat.reduceLeDiff, Nat.reduceMul, Nat.reduceBEq, reduceIte, he0, le0, qe0, pe0, gi62, ko27, ko30, ko32, i62, gi66, i66, c67]
        obtain ⟨z76, hL76, h⟩ := bs h
        obtain ⟨I76, hI76⟩ : ∃ I : ((List TRow) × Int × Bool) → St → Prop, I = fun a s => match a with | (v77, v79, v80) => ∃ o78, s.G = fillKey (fillKey (fillKey (fillKey (fillKey (fillKey (fillKey (cut d G) e0 t0 [.box [.p (.bool v80)]]) (d + 1) 6 [.box [.csl [], .csl []]]) (d + 1) 8 [.box [growV o30 (d + 1) (v29.map cTRow), growV o32 (d + 1) (v31.map cTRow)]]) (d + 1) 30 (growO o78 30 4 (v77.map cTRow))) (d + 1) 42 (growO o30 42 4 (v29.map cTRow))) (d + 1) 55 (growO o32 55 4 (v31.map cTRow))) (d + 1) 110 (growO o78 110 4 (v77.map cTRow)) ∧ growOK o78 [30, 110] ∧ s.F 0 = .bp (e0, t0, 0) 0 ∧ s.F 6 = .bp (d + 1, 6, 0) 0 ∧ s.F 8 = .bp (d + 1, 8, 0) 0 ∧ s.F 9 = growV o78 (d + 1) (v77.map cTRow) ∧ s.F 80 = growV o30 (d + 1) (v29.map cTRow) ∧ s.F 81 = .p (.int .i64 (v29.length : Int)) ∧ s.F 82 = .p (.int .i64 v79) ∧ True := ⟨_, rfl⟩
        obtain ⟨R76, hR76⟩ : ∃ R : ((List TRow) × Bool) → GE → St → Prop, R = fun x e s => match x with | (v81, v83) => e = .exit 3 ∧ (∃ o82, s.G = fillKey (fillKey (fillKey (fillKey (fillKey (fillKey (fillKey (cut d G) e0 t0 [.box [.p (.bool v83)]]) (d + 1) 6 [.box [.csl [], .csl []]]) (d + 1) 8 [.box [growV o30 (d + 1) (v29.map cTRow), growV o32 (d + 1) (v31.map cTRow)]]) (d + 1) 30 (growO o82 30 4 (v81.map cTRow))) (d + 1) 42 (growO o30 42 4 (v29.map cTRow))) (d + 1) 55 (growO o32 55 4 (v31.map cTRow))) (d + 1) 110 (growO o82 110 4 (v81.map cTRow)) ∧ growOK o82 [30, 110] ∧ s.F 6 = .bp (d + 1, 6, 0) 0 ∧ s.F 8 = .bp (d + 1, 8, 0) 0 ∧ s.F 9 = growV o82 (d + 1) (v81.map cTRow) ∧ True) := ⟨_, rfl⟩
        refine lp (ts := [14, 16]) rfl hL76 I76 R76 ?_ ?_ ?_
        · rw [hI76]
          refine ⟨o27, ?_⟩
          simp -implicitDefEqProofs only [go_sem, Nat.reduceEqDiff, Nat.reduceAdd, Nat.reduceLT, Nat.reduceLeDiff, Nat.reduceMul, Nat.reduceBEq, reduceIte, he0, le0, qe0, pe0, gi62, ko27, ko30, ko32, i62, gi66, i66, c67, poison_grow (d := d + 1) (ts := [14, 16]) ko27 (by decide), poison_grow (d := d + 1) (ts := [14, 16]) ko30 (by decide), poison_grow (d := d + 1) (ts := [14, 16]) ko32 (by decide), growO_out (t := 110) ko27 (by decide), growOK_eq (ts' := [30, 110]) ko27 (by decide)]
        · clear h hL76
          rintro ⟨v77, v79, v80⟩ y s h i
          rw [hI76] at i
          obtain ⟨o78, gi76, ko78, i76⟩ := i
          replace h : m_bound_engine_drop_L1 v29 v31 (v77, v79, v80) = some y := h
          unfold m_bound_engine_drop_L1 at h
          rcases ib h with ⟨c84, h⟩ | ⟨c84, h⟩
          · obtain ⟨v85, hv85, h⟩ := bs h
            replace hv85 := gis hv85
            simp -implicitDefEqProofs only [go_sem, Nat.reduceEqDiff, Nat.reduceAdd, Nat.reduceLT, Nat.reduceLeDiff, Nat.reduceMul, Nat.reduceBEq, reduceIte, he0, le0, qe0, pe0, gi62, ko27, ko30, ko32, i62, gi66, i66, c67, gi76, ko78, i76, c84, hv85]
            obtain ⟨z94, hL94, h⟩ := bs h
            obtain ⟨I94, hI94⟩ : ∃ I : ((List TRow) × Int × Bool) → St → Prop, I = fun a s => match a with | (v95, v97, v98) => ∃ o96, s.G = fillKey (fillKey (fillKey (fillKey (fillKey (fillKey (fillKey (fillKey (cut d G) e0 t0 [.box [.p (.bool v98)]]) (d + 1) 6 [.box [.csl [], .csl []]]) (d + 1) 8 [.box [growV o30 (d + 1) (v29.map cTRow), growV o32 (d + 1) (v31.map cTRow)]]) (d + 1) 14 [.box [.p (.int .i64 v85.f0), .p (.sl (v85.f1.f0.map cTRat)), .p (.int .i64 v85.f1.f1.f0), .p (.int .i64 v85.f1.f1.f1)]]) (d + 1) 30 (growO o96 30 4 (v95.map cTRow))) (d + 1) 42 (growO o30 42 4 (v29.map cTRow))) (d + 1) 55 (growO o32 55 4 (v31.map cTRow))) (d + 1) 110 (growO o96 110 4 (v95.map cTRow)) ∧ growOK o96 [30, 110] ∧ s.F 0 = .bp (e0, t0, 0) 0 ∧ s.F 6 = .bp (d + 1, 6, 0) 0 ∧ s.F 8 = .bp (d + 1, 8, 0) 0 ∧ s.F 9 = growV o96 (d + 1) (v95.map cTRow) ∧ s.F 14 = .bp (d + 1, 14, 0) 0 ∧ s.F 80 = growV o30 (d + 1) (v29.map cTRow) ∧ s.F 81 = .p (.int .i64 (v29.length : Int)) ∧ s.F 82 = .p (.int .i64 v79) ∧ s.F 87 = growV o32 (d + 1) (v31.map cTRow) ∧ s.F 88 = .p (.int .i64 (v31.length : Int)) ∧ s.F 89 = .p (.int .i64 v97) ∧ True := ⟨_, rfl⟩
            obtain ⟨R94, hR94⟩ : ∃ R : ((List TRow) × Bool) → GE → St → Prop, R = fun x e s => match x with | (v99, v101) => e = .exit 5 ∧ (∃ o100, s.G = fillKey (fillKey (fillKey (fillKey (fillKey (fillKey (fillKey (fillKey (cut d G) e0 t0 [.box [.p (.bool v101)]]) (d + 1) 6 [.box [.csl [], .csl []]]) (d + 1) 8 [.box [growV o30 (d + 1) (v29.map cTRow), growV o32 (d + 1) (v31.map cTRow)]]) (d + 1) 14 [.box [.p (.int .i64 v85.f0), .p (.sl (v85.f1.f0.map cTRat)), .p (.int .i64 v85.f1.f1.f0), .p (.int .i64 v85.f1.f1.f1)]]) (d + 1) 30 (growO o100 30 4 (v99.map cTRow))) (d + 1) 42 (growO o30 42 4 (v29.map cTRow))) (d + 1) 55 (growO o32 55 4 (v31.map cTRow))) (d + 1) 110 (growO o100 110 4 (v99.map cTRow)) ∧ growOK o100 [30, 110] ∧ s.F 0 = .bp (e0, t0, 0) 0 ∧ s.F 6 = .bp (d + 1, 6, 0) 0 ∧ s.F 8 = .bp (d + 1, 8, 0) 0 ∧ s.F 9 = growV o100 (d + 1) (v99.map cTRow) ∧ s.F 80 = growV o30 (d + 1) (v29.map cTRow) ∧ s.F 81 = .p (.int .i64 (v29.length : Int)) ∧ s.F 82 = .p (.int .i64 v79) ∧ True) := ⟨_, rfl⟩
            refine lp (ts := [16]) rfl hL94 I94 R94 ?_ ?_ ?_
            · rw [hI94]
              refine ⟨o78, ?_⟩
              simp -implicitDefEqProofs only [go_sem, Nat.reduceEqDiff, Nat.reduceAdd, Nat.reduceLT, Nat.reduceLeDiff, Nat.reduceMul, Nat.reduceBEq, reduceIte, he0, le0, qe0, pe0, gi62, ko27, ko30, ko32, i62, gi66, i66, c67, gi76, ko78, i76, c84, hv85, poison_grow (d := d + 1) (ts := [16]) ko78 (by decide), poison_grow (d := d + 1) (ts := [16]) ko30 (by decide), poison_grow (d := d + 1) (ts := [16]) ko32 (by decide)]
            · clear h hL94
              rintro ⟨v95, v97, v98⟩ y s h i
              rw [hI94] at i
              obtain ⟨o96, gi94, ko96, i94⟩ := i
              replace h : m_bound_engine_drop_L2 v31 v85 (v95, v97, v98) = some y := h
              unfold m_bound_engine_drop_L2 at h
              rcases ib h with ⟨c102, h⟩ | ⟨c102, h⟩
              · obtain ⟨v103, hv103, h⟩ := bs h
                replace hv103 := gis hv103
                obtain ⟨r104, hr104, h⟩ := bs h
                simp -implicitDefEqProofs only [go_sem, Nat.reduceEqDiff, Nat.reduceAdd, Nat.reduceLT, Nat.reduceLeDiff, Nat.reduceMul, Nat.reduceBEq, reduceIte, he0, le0, qe0, pe0, gi62, ko27, ko30, ko32, i62, gi66, i66, c67, gi76, ko78, i76, c84, hv85, gi94, ko96, i94, c102, hv103]
                refine call_frz (r' := .tup [.agg [.p (.sl (r104.1.f0.map cTRat)), .p (.int .i64 r104.1.f1.f0), .p (.int .i64 r104.1.f1.f1)], .p (.int .i64 r104.2)]) (m_term_Add_ev v85.f1 v103.f1 r104 hr104 (d + 1) empty) (by simp -implicitDefEqProofs only [go_sem, Nat.reduceEqDiff, Nat.reduceAdd, Nat.reduceLT, Nat.reduceLeDiff, Nat.reduceMul, Nat.reduceBEq, reduceIte, he0, le0, qe0, pe0, gi62, ko27, ko30, ko32, i62, gi66, i66, c67, gi76, ko78, i76, c84, hv85, gi94, ko96, i94, c102, hv103]) rfl (by simp -implicitDefEqProofs only [go_sem, Nat.reduceEqDiff, Nat.reduceAdd, Nat.reduceLT, Nat.reduceLeDiff, Nat.reduceMul, Nat.reduceBEq, reduceIte]) (by simp -implicitDefEqProofs only [go_sem, Nat.reduceEqDiff, Nat.reduceAdd, Nat.reduceLT, Nat.reduceLeDiff, Nat.reduceMul, Nat.reduceBEq, reduceIte]) ?_ rfl rfl
                obtain ⟨r105, hr105, h⟩ := bs h
                simp -implicitDefEqProofs only [go_sem, Nat.reduceEqDiff, Nat.reduceAdd, Nat.reduceLT, Nat.reduceLeDiff, Nat.reduceMul, Nat.reduceBEq, reduceIte, he0, le0, qe0, pe0, gi62, ko27, ko30, ko32, i62, gi66, i66, c67, gi76, ko78, i76, c84, hv85, gi94, ko96, i94, c102, hv103]
                refine call_drwL (t0 := 999) (r := .agg [.p (.sl (r105.1.f0.map cTRat)), .p (.int .i64 r105.1.f1.f0), .p (.int .i64 r105.1.f1.f1)]) [(e0, t0, [.box [.p (.bool r105.2.f0)]])] (fun H => m_bound_engine_term_ev (⟨v98⟩ : TBound_engine) r104.1 r104.2 r105 hr105 (d + 1) _ e0 t0 (Nat.le_succ_of_le he0) (by simp -implicitDefEqProofs only [go_sem, Nat.reduceEqDiff, Nat.reduceAdd, Nat.reduceLT, Nat.reduceLeDiff, Nat.reduceMul, Nat.reduceBEq, reduceIte, he0, le0, qe0, pe0, gi62, ko27, ko30, ko32, i62, gi66, i66, c67, gi76, ko78, i76, c84, hv85, gi94, ko96, i94, c102, hv103]) ) (by simp -implicitDefEqProofs only [go_sem, Nat.reduceEqDiff, Nat.reduceAdd, Nat.reduceLT, Nat.reduceLeDiff, Nat.reduceMul, Nat.reduceBEq, reduceIte, he0, le0, qe0, pe0, gi62, ko27, ko30, ko32, i62, gi66, i66, c67, gi76, ko78, i76, c84, hv85, gi94, ko96, i94, c102, hv103]) rfl (by simp -implicitDefEqProofs only [go_sem, Nat.reduceEqDiff, Nat.reduceAdd, Nat.reduceLT, Nat.reduceLeDiff, Nat.reduceMul, Nat.reduceBEq, reduceIte, he0, le0, qe0, pe0, gi62, ko27, ko30, ko32, i62, gi66, i66, c67, gi76, ko78, i76, c84, hv85, gi94, ko96, i94, c102, hv103]) (by simp -implicitDefEqProofs only [go_sem, Nat.reduceEqDiff, Nat.reduceAdd, Nat.reduceLT, Nat.reduceLeDiff, Nat.reduceMul, Nat.reduceBEq, reduceIte, he0, le0, qe0, pe0, gi62, ko27, ko30, ko32, i62, gi66, i66, c67, gi76, ko78, i76, c84, hv85, gi94, ko96, i94, c102, hv103]) (by simp -implicitDefEqProofs only [go_sem, Nat.reduceEqDiff, Nat.reduceAdd, Nat.reduceLT, Nat.reduceLeDiff, Nat.reduceMul, Nat.reduceBEq, reduceIte]) (by simp -implicitDefEqProofs only [go_sem, Nat.reduceEqDiff, Nat.reduceAdd, Nat.reduceLT, Nat.reduceLeDiff, Nat.reduceMul, Nat.reduceBEq, reduceIte, he0, le0, qe0, pe0, gi62, ko27, ko30, ko32, i62, gi66, i66, c67, gi76, ko78, i76, c84, hv85, gi94, ko96, i94, c102, hv103]) (by simp -implicitDefEqProofs only [go_sem, Nat.reduceEqDiff, Nat.reduceAdd, Nat.reduceLT, Nat.reduceLeDiff, Nat.reduceMul, Nat.reduceBEq, reduceIte, he0, le0, qe0, pe0, gi62, ko27, ko30, ko32, i62, gi66, i66, c67, gi76, ko78, i76, c84, hv85, gi94, ko96, i94, c102, hv103]) (fun x hx => by simp only [go_sem, reduceIte, Nat.reduceEqDiff, List.mem_cons, List.not_mem_nil, or_false] at hx; rcases hx with rfl | rfl <;> first | exact ⟨(d + 1, 14, 0), 0, rfl, by simp -implicitDefEqProofs only [go_sem, Nat.reduceEqDiff, Nat.reduceAdd, Nat.reduceLT, Nat.reduceLeDiff, Nat.reduceMul, Nat.reduceBEq, reduceIte, he0, le0, qe0, pe0, gi62, ko27, ko30, ko32, i62, gi66, i66, c67, gi76, ko78, i76, c84, hv85, gi94, ko96, i94, c102, hv103], [.p (.int .i64 v85.f0), .p (.sl (v85.f1.f0.map cTRat)), .p (.int .i64 v85.f1.f1.f0), .p (.int .i64 v85.f1.f1.f1)], [.p (.int .i64 v85.f0), .p (.sl (v85.f1.f0.map cTRat)), .p (.int .i64 v85.f1.f1.f0), .p (.int .i64 v85.f1.f1.f1)], by simp -implicitDefEqProofs only [go_sem, Nat.reduceEqDiff, Nat.reduceAdd, Nat.reduceLT, Nat.reduceLeDiff, Nat.reduceMul, Nat.reduceBEq, reduceIte, he0, le0, qe0, pe0, gi62, ko27, ko30, ko32, i62, gi66, i66, c67, gi76, ko78, i76, c84, hv85, gi94, ko96, i94, c102, hv103], by simp -implicitDefEqProofs only [go_sem, Nat.reduceEqDiff, Nat.reduceAdd, Nat.reduceLT, Nat.reduceLeDiff, Nat.reduceMul, Nat.reduceBEq, reduceIte, he0, le0, qe0, pe0, gi62, ko27, ko30, ko32, i62, gi66, i66, c67, gi76, ko78, i76, c84, hv85, gi94, ko96, i94, c102, hv103], by simp -implicitDefEqProofs only [go_sem, Nat.reduceEqDiff, Nat.reduceAdd, Nat.reduceLT, Nat.reduceLeDiff, Nat.reduceMul, Nat.reduceBEq, reduceIte, he0, le0, qe0, pe0, gi62, ko27, ko30, ko32, i62, gi66, i66, c67, gi76, ko78, i76, c84, hv85, gi94, ko96, i94, c102, hv103]⟩ | exact ⟨(d + 1, 16, 0), 0, rfl, by simp -implicitDefEqProofs only [go_sem, Nat.reduceEqDiff, Nat.reduceAdd, Nat.reduceLT, Nat.reduceLeDiff, Nat.reduceMul, Nat.reduceBEq, reduceIte, he0, le0, qe0, pe0, gi62, ko27, ko30, ko32, i62, gi66, i66, c67, gi76, ko78, i76, c84, hv85, gi94, ko96, i94, c102, hv103], [.p (.int .i64 v103.f0), .p (.sl (v103.f1.f0.map cTRat)), .p (.int .i64 v103.f1.f1.f0), .p (.int .i64 v103.f1.f1.f1)], [.p (.int .i64 v103.f0), .p (.sl (v103.f1.f0.map cTRat)), .p (.int .i64 v103.f1.f1.f0), .p (.int .i64 v103.f1.f1.f1)], by simp -implicitDefEqProofs only [go_sem, Nat.reduceEqDiff, Nat.reduceAdd, Nat.reduceLT, Nat.reduceLeDiff, Nat.reduceMul, Nat.reduceBEq, reduceIte, he0, le0, qe0, pe0, gi62, ko27, ko30, ko32, i62, gi66, i66, c67, gi76, ko78, i76, c84, hv85, gi94, ko96, i94, c102, hv103], by simp -implicitDefEqProofs only [go_sem, Nat.reduceEqDiff, Nat.reduceAdd, Nat.reduceLT, Nat.reduceLeDiff, Nat.reduceMul, Nat.reduceBEq, reduceIte, he0, le0, qe0, pe0, gi62, ko27, ko30, ko32, i62, gi66, i66, c67, gi76, ko78, i76, c84, hv85, gi94, ko96, i94, c102, hv103], by simp -implicitDefEqProofs only [go_sem, Nat.reduceEqDiff, Nat.reduceAdd, Nat.reduceLT, Nat.reduceLeDiff, Nat.reduceMul, Nat.reduceBEq, reduceIte, he0, le0, qe0, pe0, gi62, ko27, ko30, ko32, i62, gi66, i66, c67, gi76, ko78, i76, c84, hv85, gi94, ko96, i94, c102, hv103]⟩) (by simp -implicitDefEqProofs only [go_sem, Nat.reduceEqDiff, Nat.reduceAdd, Nat.reduceLT, Nat.reduceLeDiff, Nat.reduceMul, Nat.reduceBEq, reduceIte]) ?_
                obtain ⟨_, c106, h⟩ := bs h
                replace c106 := rqs c106
                simp -implicitDefEqProofs only [go_sem, Nat.reduceEqDiff, Nat.reduceAdd, Nat.reduceLT, Nat.reduceLeDiff, Nat.reduceMul, Nat.reduceBEq, reduceIte, he0, le0, qe0, pe0, gi62, ko27, ko30, ko32, i62, gi66, i66, c67, gi76, ko78, i76, c84, hv85, gi94, ko96, i94, c102, hv103, c106]
                refine append_G (o := o96) (ts := [30, 110]) (es := (v95 : List TRow).map cTRow) (xs := ([(⟨(if v85.f0 < v103.f0 then v103.f0 else v85.f0), r105.1⟩ : TRow)] : List TRow).map cTRow) (ho := growOK.sub ko96 (by decide)) (hG := by simp -implicitDefEqProofs only [go_sem, Nat.reduceEqDiff, Nat.reduceAdd, Nat.reduceLT, Nat.reduceLeDiff, Nat.reduceMul, Nat.reduceBEq, reduceIte, he0, le0, qe0, pe0, gi62, ko27, ko30, ko32, i62, gi66, i66, c67, gi76, ko78, i76, c84, hv85, gi94, ko96, i94, c102, hv103, c106]) (hj := by simp -implicitDefEqProofs only [go_sem, Nat.reduceEqDiff, Nat.reduceAdd, Nat.reduceLT, Nat.reduceLeDiff, Nat.reduceMul, Nat.reduceBEq, reduceIte]) (he := el22) (hx := by simp -implicitDefEqProofs only [go_sem, Nat.reduceEqDiff, Nat.reduceAdd, Nat.reduceLT, Nat.reduceLeDiff, Nat.reduceMul, Nat.reduceBEq, reduceIte, he0, le0, qe0, pe0, gi62, ko27, ko30, ko32, i62, gi66, i66, c67, gi76, ko78, i76, c84, hv85, gi94, ko96, i94, c102, hv103, c106]) (h1 := by simp -implicitDefEqProofs only [go_sem, Nat.reduceEqDiff, Nat.reduceAdd, Nat.reduceLT, Nat.reduceLeDiff, Nat.reduceMul, Nat.reduceBEq, reduceIte]) (h2 := by simp -implicitDefEqProofs only [go_sem, Nat.reduceEqDiff, Nat.reduceAdd, Nat.reduceLT, Nat.reduceLeDiff, Nat.reduceMul, Nat.reduceBEq, reduceIte]) (ha := rfl) (hra := rfl) (hb := by simpa using c106) (hbb := by decide) ?_
                intro o107 ko107
                cases h
                simp -implicitDefEqProofs only [go_sem, Nat.reduceEqDiff, Nat.reduceAdd, Nat.reduceLT, Nat.reduceLeDiff, Nat.reduceMul, Nat.reduceBEq, reduceIte, he0, le0, qe0, pe0, gi62, ko27, ko30, ko32, i62, gi66, i66, c67, gi76, ko78, i76, c84, hv85, gi94, ko96, i94, c102, hv103, c106, ko107]
                rw [hI94]
                refine ⟨o107, ?_⟩
                simp -implicitDefEqProofs only [go_sem, Nat.reduceEqDiff, Nat.reduceAdd, Nat.reduceLT, Nat.reduceLeDiff, Nat.reduceMul, Nat.reduceBEq, reduceIte, he0, le0, qe0, pe0, gi62, ko27, ko30, ko32, i62, gi66, i66, c67, gi76, ko78, i76, c84, hv85, gi94, ko96, i94, c102, hv103, c106, ko107, poison_grow (d := d + 1) (ts := [16]) ko107 (by decide), poison_grow (d := d + 1) (ts := [16]) ko30 (by decide), poison_grow (d := d + 1) (ts := [16]) ko32 (by decide), poison_grow (d := d + 1) (ts := [16]) ko96 (by decide)]
              · cases h
                simp -implicitDefEqProofs only [go_sem, Nat.reduceEqDiff, Nat.reduceAdd, Nat.reduceLT, Nat.reduceLeDiff, Nat.reduceMul, Nat.reduceBEq, reduceIte, he0, le0, qe0, pe0, gi62, ko27, ko30, ko32, i62, gi66, i66, c67, gi76, ko78, i76, c84, hv85, gi94, ko96, i94, c102]
                rw [hR94]
                first | refine ⟨rfl, o96, ?_⟩ | refine ⟨(), rfl, o96, ?_⟩
                simp -implicitDefEqProofs only [go_sem, Nat.reduceEqDiff, Nat.reduceAdd, Nat.reduceLT, Nat.reduceLeDiff, Nat.reduceMul, Nat.reduceBEq, reduceIte, he0, le0, qe0, pe0, gi62, ko27, ko30, ko32, i62, gi66, i66, c67, gi76, ko78, i76, c84, hv85, gi94, ko96, i94, c102]
            · clear hL94 hI94
              intro e s hr94
              rw [hR94] at hr94
              clear hR94
              rcases z94 with ⟨v99, v101⟩
              try dsimp only at h hr94
              obtain ⟨rfl, o100, gi108, ko100, i108⟩ := hr94
              cases h
              simp -implicitDefEqProofs only [go_sem, Nat.reduceEqDiff, Nat.reduceAdd, Nat.reduceLT, Nat.reduceLeDiff, Nat.reduceMul, Nat.reduceBEq, reduceIte, he0, le0, qe0, pe0, gi62, ko27, ko30, ko32, i62, gi66, i66, c67, gi76, ko78, i76, c84, hv85, gi108, ko100, i108]
              rw [hI76]
              refine ⟨o100, ?_⟩
              simp -implicitDefEqProofs only [go_sem, Nat.reduceEqDiff, Nat.reduceAdd, Nat.reduceLT, Nat.reduceLeDiff, Nat.reduceMul, Nat.reduceBEq, reduceIte, he0, le0, qe0, pe0, gi62, ko27, ko30, ko32, i62, gi66, i66, c67, gi76, ko78, i76, c84, hv85, gi108, ko100, i108, poison_grow (d := d + 1) (ts := [14, 16]) ko100 (by decide), poison_grow (d := d + 1) (ts := [14, 16]) ko30 (by decide), poison_grow (d := d + 1) (ts := [14, 16]) ko32 (by decide)]
          · cases h
            simp -implicitDefEqProofs only [go_sem, Nat.reduceEqDiff, Nat.reduceAdd, Nat.reduceLT, Nat.reduceLeDiff, Nat.reduceMul, Nat.reduceBEq, reduceIte, he0, le0, qe0, pe0, gi62, ko27, ko30, ko32, i62, gi66, i66, c67, gi76, ko78, i76, c84]
            rw [hR76]
            first | refine ⟨rfl, o78, ?_⟩ | refine ⟨(), rfl, o78, ?_⟩
            simp -implicitDefEqProofs only [go_sem, Nat.reduceEqDiff, Nat.reduceAdd, Nat.reduceLT, Nat.reduceLeDiff, Nat.reduceMul, Nat.reduceBEq, reduceIte, he0, le0, qe0, pe0, gi62, ko27, ko30, ko32, i62, gi66, i66, c67, gi76, ko78, i76, c84]
        · clear hL76 hI76
          intro e s hr76
          rw [hR76] at hr76
          clear hR76
          rcases z76 with ⟨v81, v83⟩
          try dsimp only at h hr76
          obtain ⟨rfl, o82, gi109, ko82, i109⟩ := hr76
          cases h
          subst hQ
          simp -implicitDefEqProofs only [go_sem, Nat.reduceEqDiff, Nat.reduceAdd, Nat.reduceLT, Nat.reduceLeDiff, Nat.reduceMul, Nat.reduceBEq, reduceIte, he0, le0, qe0, pe0, gi62, ko27, ko30, ko32, i62, gi66, i66, c67, gi109, ko82, i109, Try.results39]
theorem m_bound_engine_edge_ev (a0 : TBound_engine) (a1 : List TRow) (a2 : List TRat) (a3 : Bool) (r0 : TRat × Bool × TBound_engine × (List TRat)) (h : m_bound_engine_edge a0 a1 a2 a3 = some r0) (d : Nat) (G : Heap) (e0 t0 : Nat) (he0 : e0 ≤ d) (hGt0 : G e0 t0 = [.box [.p (.bool a0.f0)]]) (e1 t1 : Nat) (he1 : e1 ≤ d) (hGt1 : G e1 t1 = [.arr (a2.map cTRat)]) (hxt0t1 : (e0 = e1 ∧ t0 = t1) = False) : Tel Try.prog TB d 103 [.bp (e0, t0, 0) 0, .p (.sl (a1.map cTRow)), .arr (e1, t1, 0) a2.length 2, .p (.bool a3)] G (.tup [.agg ((cTRat r0.1).map .p), .p (.bool r0.2.1)]) (fillKey (fillKey (G) e0 t0 ([.box [.p (.bool r0.2.2.1.f0)]])) e1 t1 ([.arr (r0.2.2.2.map cTRat)])) := by
  unfold m_bound_engine_edge at h
  refine Tel.intro mix Try.func103 rfl (Nat.le_of_ble_eq_true rfl) {openAt := fun t => t == 29, borAt := fun t => t == 26, frzAt := fun t => t == 42, clean := fun r => if r = 3 then [12, 13] else []} (by kernel_rfl) (by kernel_rfl) ?_
  have le0 : (e0 ≤ d + 1) = True := by simp; omega
  have qe0 : (e0 = d + 1) = False := by simp; omega
  have pe0 : (d + 1 = e0) = False := by simp; omega
  have le1 : (e1 ≤ d + 1) = True := by simp; omega
  have qe1 : (e1 = d + 1) = False := by simp; omega
  have pe1 : (d + 1 = e1) = False := by simp; omega
  have hxt1t0 : (e1 = e0 ∧ t1 = t0) = False := by rw [← hxt0t1]; simp only [eq_comm]
  have wt0t1 := fk_swap (a := e1) (b := t1) (a' := e0) (b' := t0) (fun x => by rw [← hxt1t0]; exact x)
  refine gwp_heap (H' := fillKey (fillKey (cut d G) e0 t0 [.box [.p (.bool a0.f0)]]) e1 t1 [.arr (a2.map cTRat)]) ?_ ?_
  · rw [fill_self (B := cut d G) (a := e0) (b := t0) (by rw [cut_app, if_pos he0]; exact hGt0), fill_self (B := cut d G) (a := e1) (b := t1) (by rw [cut_app, if_pos he1]; exact hGt1)]
  generalize hQ : callPost _ _ _ _ _ = Q
  simp -implicitDefEqProofs only [go_sem, Nat.reduceEqDiff, Nat.reduceAdd, Nat.reduceLT, Nat.reduceLeDiff, Nat.reduceMul, Nat.reduceBEq, reduceIte, he0, le0, qe0, pe0, he1, le1, qe1, pe1, hxt0t1, hxt1t0, wt0t1]
  obtain ⟨z9, hL9, h⟩ := bs h
  obtain ⟨I9, hI9⟩ : ∃ I : (Int × Bool × Int × Int) → St → Prop, I = fun a s => match a with | (v10, v11, v12, v13) => s.G = fillKey (fillKey (fillKey (fillKey (cut d G) e0 t0 [.box [.p (.bool v11)]]) e1 t1 [.arr (a2.map cTRat)]) (d + 1) 8 [.box [.p (.int .i64 0), .p (.int .i64 0)]]) (d + 1) 10 [.box [.p (.int .i64 v12), .p (.int .i64 v13)]] ∧ s.F 0 = .bp (e0, t0, 0) 0 ∧ s.F 1 = .p (.sl (a1.map cTRow)) ∧ s.F 2 = .arr (e1, t1, 0) a2.length 2 ∧ s.F 3 = .p (.bool a3) ∧ s.F 8 = .bp (d + 1, 8, 0) 0 ∧ s.F 10 = .bp (d + 1, 10, 0) 0 ∧ s.F 15 = .p (.sl (a1.map cTRow)) ∧ s.F 16 = .p (.int .i64 (a1.length : Int)) ∧ s.F 17 = .p (.int .i64 v10) ∧ True := ⟨_, rfl⟩
  obtain ⟨R9, hR9⟩ : ∃ R : ((Bool × Int × Int) ⊕ (TRat × Bool × TBound_engine × (List TRat))) → GE → St → Prop, R = fun x e s => match x with | .inl (v14, v15, v16) => e = .exit 0 ∧ s.G = fillKey (fillKey (fillKey (fillKey (cut d G) e0 t0 [.box [.p (.bool v14)]]) e1 t1 [.arr (a2.map cTRat)]) (d + 1) 8 [.box [.p (.int .i64 0), .p (.int .i64 0)]]) (d + 1) 10 [.box [.p (.int .i64 v15), .p (.int .i64 v16)]] ∧ s.F 1 = .p (.sl (a1.map cTRow)) ∧ s.F 8 = .bp (d + 1, 8, 0) 0 ∧ s.F 10 = .bp (d + 1, 10, 0) 0 ∧ True | .inr r => e = .ret ∧ (r = r0 → Q .ret s) := ⟨_, rfl⟩
  refine lp (ts := [12, 13]) rfl hL9 I9 R9 ?_ ?_ ?_
  · rw [hI9]
    simp -implicitDefEqProofs only [go_sem, Nat.reduceEqDiff, Nat.reduceAdd, Nat.reduceLT, Nat.reduceLeDiff, Nat.reduceMul, Nat.reduceBEq, reduceIte, he0, le0, qe0, pe0, he1, le1, qe1, pe1, hxt0t1, hxt1t0, wt0t1]
  · clear h hL9
    rintro ⟨v10, v11, v12, v13⟩ y s h i
    rw [hI9] at i
    obtain ⟨gi9, i9⟩ := i
    replace h : m_bound_engine_edge_L0 a1 a2 a3 (v10, v11, v12, v13) = some y := h
    unfold m_bound_engine_edge_L0 at h
    rcases ib h with ⟨c17, h⟩ | ⟨c17, h⟩
    · obtain ⟨v18, hv18, h⟩ := bs h
      replace hv18 := gis hv18
      obtain ⟨r19, hr19, h⟩ := bs h
      simp -implicitDefEqProofs only [go_sem, Nat.reduceEqDiff, Nat.reduceAdd, Nat.reduceLT, Nat.reduceLeDiff, Nat.reduceMul, Nat.reduceBEq, reduceIte, he0, le0, qe0, pe0, he1, le1, qe1, pe1, hxt0t1, hxt1t0, wt0t1, gi9, i9, c17, hv18]
      refine call_look (m_term_Value_ev v18.f1 a2 r19 hr19 (d + 1) empty) (by simp -implicitDefEqProofs only [go_sem, Nat.reduceEqDiff, Nat.reduceAdd, Nat.reduceLT, Nat.reduceLeDiff, Nat.reduceMul, Nat.reduceBEq, reduceIte, he0, le0, qe0, pe0, he1, le1, qe1, pe1, hxt0t1, hxt1t0, wt0t1, gi9, i9, c17, hv18]) (by simp -implicitDefEqProofs only [go_sem, Nat.reduceEqDiff, Nat.reduceAdd, Nat.reduceLT, Nat.reduceLeDiff, Nat.reduceMul, Nat.reduceBEq, reduceIte]) (by simp -implicitDefEqProofs only [go_sem, Nat.reduceEqDiff, Nat.reduceAdd, Nat.reduceLT, Nat.reduceLeDiff, Nat.reduceMul, Nat.reduceBEq, reduceIte]) ?_ rfl
      obtain ⟨r20, hr20, h⟩ := bs h
      simp -implicitDefEqProofs only [go_sem, Nat.reduceEqDiff, Nat.reduceAdd, Nat.reduceLT, Nat.reduceLeDiff, Nat.reduceMul, Nat.reduceBEq, reduceIte, he0, le0, qe0, pe0, he1, le1, qe1, pe1, hxt0t1, hxt1t0, wt0t1, gi9, i9, c17, hv18]
      refine call_open0 (t0 := 999) (r := .agg [.p (.int .i64 r20.1.f0), .p (.int .i64 r20.1.f1)]) (m_bound_engine_rat_ev (⟨v11⟩ : TBound_engine) r19.1 r19.2 r20 hr20 (d + 1) _ e0 t0 (Nat.le_succ_of_le he0) (by simp -implicitDefEqProofs only [go_sem, Nat.reduceEqDiff, Nat.reduceAdd, Nat.reduceLT, Nat.reduceLeDiff, Nat.reduceMul, Nat.reduceBEq, reduceIte, he0, le0, qe0, pe0, he1, le1, qe1, pe1, hxt0t1, hxt1t0, wt0t1, gi9, i9, c17, hv18]) ) (by simp -implicitDefEqProofs only [go_sem, Nat.reduceEqDiff, Nat.reduceAdd, Nat.reduceLT, Nat.reduceLeDiff, Nat.reduceMul, Nat.reduceBEq, reduceIte, he0, le0, qe0, pe0, he1, le1, qe1, pe1, hxt0t1, hxt1t0, wt0t1, gi9, i9, c17, hv18]) rfl (by simp -implicitDefEqProofs only [go_sem, Nat.reduceEqDiff, Nat.reduceAdd, Nat.reduceLT, Nat.reduceLeDiff, Nat.reduceMul, Nat.reduceBEq, reduceIte, he0, le0, qe0, pe0, he1, le1, qe1, pe1, hxt0t1, hxt1t0, wt0t1, gi9, i9, c17, hv18]) (by simp -implicitDefEqProofs only [go_sem, Nat.reduceEqDiff, Nat.reduceAdd, Nat.reduceLT, Nat.reduceLeDiff, Nat.reduceMul, Nat.reduceBEq, reduceIte, he0, le0, qe0, pe0, he1, le1, qe1, pe1, hxt0t1, hxt1t0, wt0t1, gi9, i9, c17, hv18]) (by simp -implicitDefEqProofs only [go_sem, Nat.reduceEqDiff, Nat.reduceAdd, Nat.reduceLT, Nat.reduceLeDiff, Nat.reduceMul, Nat.reduceBEq, reduceIte]) ?_
      rcases ib h with ⟨c21, h⟩ | ⟨c21, h⟩
      · cases h
        simp -implicitDefEqProofs only [go_sem, Nat.reduceEqDiff, Nat.reduceAdd, Nat.reduceLT, Nat.reduceLeDiff, Nat.reduceMul, Nat.reduceBEq, reduceIte, he0, le0, qe0, pe0, he1, le1, qe1, pe1, hxt0t1, hxt1t0, wt0t1, gi9, i9, c17, hv18, c21]
        rw [hR9]
        refine ⟨rfl, ?_⟩
        intro hr
        subst hr
        subst hQ
        simp -implicitDefEqProofs only [go_sem, Nat.reduceEqDiff, Nat.reduceAdd, Nat.reduceLT, Nat.reduceLeDiff, Nat.reduceMul, Nat.reduceBEq, reduceIte, he0, le0, qe0, pe0, he1, le1, qe1, pe1, hxt0t1, hxt1t0, wt0t1, gi9, i9, c17, hv18, c21, Try.results103]
      · simp -implicitDefEqProofs only [go_sem, Nat.reduceEqDiff, Nat.reduceAdd, Nat.reduceLT, Nat.reduceLeDiff, Nat.reduceMul, Nat.reduceBEq, reduceIte, he0, le0, qe0, pe0, he1, le1, qe1, pe1, hxt0t1, hxt1t0, wt0t1, gi9, i9, c17, hv18, c21]
        obtain ⟨v22, hz, h⟩ := bs h
        obtain ⟨R23, hR23⟩ : ∃ R : St → Prop, R = fun s => s.G = fillKey (fillKey (fillKey (fillKey (fillKey (fillKey (cut d G) e0 t0 [.box [.p (.bool r20.2.f0)]]) e1 t1 [.arr (a2.map cTRat)]) (d + 1) 8 [.box [.p (.int .i64 0), .p (.int .i64 0)]]) (d + 1) 10 [.box [.p (.int .i64 v12), .p (.int .i64 v13)]]) (d + 1) 12 [.box [.p (.int .i64 v18.f0), .p (.sl (v18.f1.f0.map cTRat)), .p (.int .i64 v18.f1.f1.f0), .p (.int .i64 v18.f1.f1.f1)]]) (d + 1) 13 [.box [.p (.int .i64 v22), .p (.int .i64 r20.1.f1)]] ∧ s.F 0 = .bp (e0, t0, 0) 0 ∧ s.F 1 = .p (.sl (a1.map cTRow)) ∧ s.F 2 = .arr (e1, t1, 0) a2.length 2 ∧ s.F 3 = .p (.bool a3) ∧ s.F 8 = .bp (d + 1, 8, 0) 0 ∧ s.F 10 = .bp (d + 1, 10, 0) 0 ∧ s.F 11 = .p (.int .i64 v10) ∧ s.F 13 = .bp (d + 1, 13, 0) 0 ∧ s.F 15 = .p (.sl (a1.map cTRow)) ∧ s.F 16 = .p (.int .i64 (a1.length : Int)) ∧ s.F 17 = .p (.int .i64 v10) ∧ True := ⟨_, rfl⟩
        refine cutG R23 ?_ ?_
        · replace h := hz
          rcases ib h with ⟨c24, h⟩ | ⟨c24, h⟩
          · cases h
            simp -implicitDefEqProofs only [go_sem, Nat.reduceEqDiff, Nat.reduceAdd, Nat.reduceLT, Nat.reduceLeDiff, Nat.reduceMul, Nat.reduceBEq, reduceIte, he0, le0, qe0, pe0, he1, le1, qe1, pe1, hxt0t1, hxt1t0, wt0t1, gi9, i9, c17, hv18, c21, c24]
            rw [hR23]
            simp -implicitDefEqProofs only [go_sem, Nat.reduceEqDiff, Nat.reduceAdd, Nat.reduceLT, Nat.reduceLeDiff, Nat.reduceMul, Nat.reduceBEq, reduceIte, he0, le0, qe0, pe0, he1, le1, qe1, pe1, hxt0t1, hxt1t0, wt0t1, gi9, i9, c17, hv18, c21, c24]
          · cases h
            simp -implicitDefEqProofs only [go_sem, Nat.reduceEqDiff, Nat.reduceAdd, Nat.reduceLT, Nat.reduceLeDiff, Nat.reduceMul, Nat.reduceBEq, reduceIte, he0, le0, qe0, pe0, he1, le1, qe1, pe1, hxt0t1, hxt1t0, wt0t1, gi9, i9, c17, hv18, c21, c24]
            rw [hR23]
            simp -implicitDefEqProofs only [go_sem, Nat.reduceEqDiff, Nat.reduceAdd, Nat.reduceLT, Nat.reduceLeDiff, Nat.reduceMul, Nat.reduceBEq, reduceIte, he0, le0, qe0, pe0, he1, le1, qe1, pe1, hxt0t1, hxt1t0, wt0t1, gi9, i9, c17, hv18, c21, c24]
        · replace h := h; clear hz
          rintro s i
          rw [hR23] at i
          obtain ⟨gi25, i25⟩ := i
          clear hR23
          try dsimp only at h
          obtain ⟨r26, hr26, h⟩ := bs h
          simp -implicitDefEqProofs only [go_sem, Nat.reduceEqDiff, Nat.reduceAdd, Nat.reduceLT, Nat.reduceLeDiff, Nat.reduceMul, Nat.reduceBEq, reduceIte, he0, le0, qe0, pe0, he1, le1, qe1, pe1, hxt0t1, hxt1t0, wt0t1, gi9, i9, c17, hv18, c21, gi25, i25]
          refine call_frz (r' := .p (.int .i64 r26)) (m_rat_Compare_ev (⟨v22, r20.1.f1⟩ : TRat) (⟨v12, v13⟩ : TRat) r26 hr26 (d + 1) empty) (by simp -implicitDefEqProofs only [go_sem, Nat.reduceEqDiff, Nat.reduceAdd, Nat.reduceLT, Nat.reduceLeDiff, Nat.reduceMul, Nat.reduceBEq, reduceIte, he0, le0, qe0, pe0, he1, le1, qe1, pe1, hxt0t1, hxt1t0, wt0t1, gi9, i9, c17, hv18, c21, gi25, i25]) rfl (by simp -implicitDefEqProofs only [go_sem, Nat.reduceEqDiff, Nat.reduceAdd, Nat.reduceLT, Nat.reduceLeDiff, Nat.reduceMul, Nat.reduceBEq, reduceIte]) (by simp -implicitDefEqProofs only [go_sem, Nat.reduceEqDiff, Nat.reduceAdd, Nat.reduceLT, Nat.reduceLeDiff, Nat.reduceMul, Nat.reduceBEq, reduceIte]) ?_ rfl rfl
          simp -implicitDefEqProofs only [go_sem, Nat.reduceEqDiff, Nat.reduceAdd, Nat.reduceLT, Nat.reduceLeDiff, Nat.reduceMul, Nat.reduceBEq, reduceIte, he0, le0, qe0, pe0, he1, le1, qe1, pe1, hxt0t1, hxt1t0, wt0t1, gi9, i9, c17, hv18, c21, gi25, i25]
          obtain ⟨v27, hz, h⟩ := bs h
          obtain ⟨R28, hR28⟩ : ∃ R : St → Prop, R = fun s => s.G = fillKey (fillKey (fillKey (fillKey (fillKey (fillKey (cut d G) e0 t0 [.box [.p (.bool r20.2.f0)]]) e1 t1 [.arr (a2.map cTRat)]) (d + 1) 8 [.box [.p (.int .i64 0), .p (.int .i64 0)]]) (d + 1) 10 [.box [.p (.int .i64 v12), .p (.int .i64 v13)]]) (d + 1) 12 [.box [.p (.int .i64 v18.f0), .p (.sl (v18.f1.f0.map cTRat)), .p (.int .i64 v18.f1.f1.f0), .p (.int .i64 v18.f1.f1.f1)]]) (d + 1) 13 [.box [.p (.int .i64 v22), .p (.int .i64 r20.1.f1)]] ∧ s.F 0 = .bp (e0, t0, 0) 0 ∧ s.F 1 = .p (.sl (a1.map cTRow)) ∧ s.F 2 = .arr (e1, t1, 0) a2.length 2 ∧ s.F 3 = .p (.bool a3) ∧ s.F 8 = .bp (d + 1, 8, 0) 0 ∧ s.F 10 = .bp (d + 1, 10, 0) 0 ∧ s.F 13 = .bp (d + 1, 13, 0) 0 ∧ s.F 15 = .p (.sl (a1.map cTRow)) ∧ s.F 16 = .p (.int .i64 (a1.length : Int)) ∧ s.F 17 = .p (.int .i64 v10) ∧ s.F 59 = .p (.bool v27) ∧ True := ⟨_, rfl⟩
          refine cutR R28 ?_ ?_
          · replace h := hz
            rcases ib h with ⟨c29, h⟩ | ⟨c29, h⟩
            · cases h
              simp -implicitDefEqProofs only [go_sem, Nat.reduceEqDiff, Nat.reduceAdd, Nat.reduceLT, Nat.reduceLeDiff, Nat.reduceMul, Nat.reduceBEq, reduceIte, he0, le0, qe0, pe0, he1, le1, qe1, pe1, hxt0t1, hxt1t0, wt0t1, gi9, i9, c17, hv18, c21, gi25, i25, c29]
              rw [hR28]
              simp -implicitDefEqProofs only [go_sem, Nat.reduceEqDiff, Nat.reduceAdd, Nat.reduceLT, Nat.reduceLeDiff, Nat.reduceMul, Nat.reduceBEq, reduceIte, he0, le0, qe0, pe0, he1, le1, qe1, pe1, hxt0t1, hxt1t0, wt0t1, gi9, i9, c17, hv18, c21, gi25, i25, c29]
            · rcases ib h with ⟨c30, h⟩ | ⟨c30, h⟩
              · rcases ib h with ⟨c31, h⟩ | ⟨c31, h⟩
                · cases h
                  simp -implicitDefEqProofs only [go_sem, Nat.reduceEqDiff, Nat.reduceAdd, Nat.reduceLT, Nat.reduceLeDiff, Nat.reduceMul, Nat.reduceBEq, reduceIte, he0, le0, qe0, pe0, he1, le1, qe1, pe1, hxt0t1, hxt1t0, wt0t1, gi9, i9, c17, hv18, c21, gi25, i25, c29, c30, c31]
                  rw [hR28]
                  simp -implicitDefEqProofs only [go_sem, Nat.reduceEqDiff, Nat.reduceAdd, Nat.reduceLT, Nat.reduceLeDiff, Nat.reduceMul, Nat.reduceBEq, reduceIte, he0, le0, qe0, pe0, he1, le1, qe1, pe1, hxt0t1, hxt1t0, wt0t1, gi9, i9, c17, hv18, c21, gi25, i25, c29, c30, c31]
                · cases h
                  simp -implicitDefEqProofs only [go_sem, Nat.reduceEqDiff, Nat.reduceAdd, Nat.reduceLT, Nat.reduceLeDiff, Nat.reduceMul, Nat.reduceBEq, reduceIte, he0, le0, qe0, pe0, he1, le1, qe1, pe1, hxt0t1, hxt1t0, wt0t1, gi9, i9, c17, hv18, c21, gi25, i25, c29, c30, c31]
                  rw [hR28]
                  simp -implicitDefEqProofs only [go_sem, Nat.reduceEqDiff, Nat.reduceAdd, Nat.reduceLT, Nat.reduceLeDiff, Nat.reduceMul, Nat.reduceBEq, reduceIte, he0, le0, qe0, pe0, he1, le1, qe1, pe1, hxt0t1, hxt1t0, wt0t1, gi9, i9, c17, hv18, c21, gi25, i25, c29, c30, c31]
              · cases h
                simp -implicitDefEqProofs only [go_sem, Nat.reduceEqDiff, Nat.reduceAdd, Nat.reduceLT, Nat.reduceLeDiff, Nat.reduceMul, Nat.reduceBEq, reduceIte, he0, le0, qe0, pe0, he1, le1, qe1, pe1, hxt0t1, hxt1t0, wt0t1, gi9, i9, c17, hv18, c21, gi25, i25, c29, c30]
                rw [hR28]
                simp -implicitDefEqProofs only [go_sem, Nat.reduceEqDiff, Nat.reduceAdd, Nat.reduceLT, Nat.reduceLeDiff, Nat.reduceMul, Nat.reduceBEq, reduceIte, he0, le0, qe0, pe0, he1, le1, qe1, pe1, hxt0t1, hxt1t0, wt0t1, gi9, i9, c17, hv18, c21, gi25, i25, c29, c30]
          · replace h := h; clear hz
            rintro s i
            rw [hR28] at i
            obtain ⟨gi32, i32⟩ := i
            clear hR28
            try dsimp only at h
            simp -implicitDefEqProofs only [go_sem, Nat.reduceEqDiff, Nat.reduceAdd, Nat.reduceLT, Nat.reduceLeDiff, Nat.reduceMul, Nat.reduceBEq, reduceIte, he0, le0, qe0, pe0, he1, le1, qe1, pe1, hxt0t1, hxt1t0, wt0t1, gi9, i9, c17, hv18, c21, gi25, i25, gi32, i32]
            obtain ⟨⟨v33, v34⟩, hz, h⟩ := bs h
            obtain ⟨R35, hR35⟩ : ∃ R : St → Prop, R = fun s => s.G = fillKey (fillKey (fillKey (fillKey (fillKey (fillKey (cut d G) e0 t0 [.box [.p (.bool r20.2.f0)]]) e1 t1 [.arr (a2.map cTRat)]) (d + 1) 8 [.box [.p (.int .i64 0), .p (.int .i64 0)]]) (d + 1) 10 [.box [.p (.int .i64 v33), .p (.int .i64 v34)]]) (d + 1) 12 [.box [.p (.int .i64 v18.f0), .p (.sl (v18.f1.f0.map cTRat)), .p (.int .i64 v18.f1.f1.f0), .p (.int .i64 v18.f1.f1.f1)]]) (d + 1) 13 [.box [.p (.int .i64 v22), .p (.int .i64 r20.1.f1)]] ∧ s.F 0 = .bp (e0, t0, 0) 0 ∧ s.F 1 = .p (.sl (a1.map cTRow)) ∧ s.F 2 = .arr (e1, t1, 0) a2.length 2 ∧ s.F 3 = .p (.bool a3) ∧ s.F 8 = .bp (d + 1, 8, 0) 0 ∧ s.F 10 = .bp (d + 1, 10, 0) 0 ∧ s.F 15 = .p (.sl (a1.map cTRow)) ∧ s.F 16 = .p (.int .i64 (a1.length : Int)) ∧ s.F 17 = .p (.int .i64 v10) ∧ True := ⟨_, rfl⟩
            refine cutG R35 ?_ ?_
            · replace h := hz
              rcases ib h with ⟨c36, h⟩ | ⟨c36, h⟩
              · cases h
                simp -implicitDefEqProofs only [go_sem, Nat.reduceEqDiff, Nat.reduceAdd, Nat.reduceLT, Nat.reduceLeDiff, Nat.reduceMul, Nat.reduceBEq, reduceIte, he0, le0, qe0, pe0, he1, le1, qe1, pe1, hxt0t1, hxt1t0, wt0t1, gi9, i9, c17, hv18, c21, gi25, i25, gi32, i32, c36]
                rw [hR35]
                simp -implicitDefEqProofs only [go_sem, Nat.reduceEqDiff, Nat.reduceAdd, Nat.reduceLT, Nat.reduceLeDiff, Nat.reduceMul, Nat.reduceBEq, reduceIte, he0, le0, qe0, pe0, he1, le1, qe1, pe1, hxt0t1, hxt1t0, wt0t1, gi9, i9, c17, hv18, c21, gi25, i25, gi32, i32, c36]
              · cases h
                simp -implicitDefEqProofs only [go_sem, Nat.reduceEqDiff, Nat.reduceAdd, Nat.reduceLT, Nat.reduceLeDiff, Nat.reduceMul, Nat.reduceBEq, reduceIte, he0, le0, qe0, pe0, he1, le1, qe1, pe1, hxt0t1, hxt1t0, wt0t1, gi9, i9, c17, hv18, c21, gi25, i25, gi32, i32, c36]
                rw [hR35]
                simp -implicitDefEqProofs only [go_sem, Nat.reduceEqDiff, Nat.reduceAdd, Nat.reduceLT, Nat.reduceLeDiff, Nat.reduceMul, Nat.reduceBEq, reduceIte, he0, le0, qe0, pe0, he1, le1, qe1, pe1, hxt0t1, hxt1t0, wt0t1, gi9, i9, c17, hv18, c21, gi25, i25, gi32, i32, c36]
            · replace h := h; clear hz
              rintro s i
              rw [hR35] at i
              obtain ⟨gi37, i37⟩ := i
              clear hR35
              try dsimp only at h
              cases h
              simp -implicitDefEqProofs only [go_sem, Nat.reduceEqDiff, Nat.reduceAdd, Nat.reduceLT, Nat.reduceLeDiff, Nat.reduceMul, Nat.reduceBEq, reduceIte, he0, le0, qe0, pe0, he1, le1, qe1, pe1, hxt0t1, hxt1t0, wt0t1, gi9, i9, c17, hv18, c21, gi25, i25, gi32, i32, gi37, i37]
              rw [hI9]
              simp -implicitDefEqProofs only [go_sem, Nat.reduceEqDiff, Nat.reduceAdd, Nat.reduceLT, Nat.reduceLeDiff, Nat.reduceMul, Nat.reduceBEq, reduceIte, he0, le0, qe0, pe0, he1, le1, qe1, pe1, hxt0t1, hxt1t0, wt0t1, gi9, i9, c17, hv18, c21, gi25, i25, gi32, i32, gi37, i37]
    · cases h
      simp -implicitDefEqProofs only [go_sem, Nat.reduceEqDiff, Nat.reduceAdd, Nat.reduceLT, Nat.reduceLeDiff, Nat.reduceMul, Nat.reduceBEq, reduceIte, he0, le0, qe0, pe0, he1, le1, qe1, pe1, hxt0t1, hxt1t0, wt0t1, gi9, i9, c17]
      rw [hR9]
      first | refine ⟨rfl, ?_⟩ | refine ⟨(), rfl, ?_⟩
      simp -implicitDefEqProofs only [go_sem, Nat.reduceEqDiff, Nat.reduceAdd, Nat.reduceLT, Nat.reduceLeDiff, Nat.reduceMul, Nat.reduceBEq, reduceIte, he0, le0, qe0, pe0, he1, le1, qe1, pe1, hxt0t1, hxt1t0, wt0t1, gi9, i9, c17]
  · clear hL9 hI9
    intro e s hr9
    rw [hR9] at hr9
    clear hR9
    rcases z9 with ⟨v14, v15, v16⟩ | r
    · try dsimp only at h hr9
      obtain ⟨rfl, gi38, i38⟩ := hr9
      cases h
      subst hQ
      simp -implicitDefEqProofs only [go_sem, Nat.reduceEqDiff, Nat.reduceAdd, Nat.reduceLT, Nat.reduceLeDiff, Nat.reduceMul, Nat.reduceBEq, reduceIte, he0, le0, qe0, pe0, he1, le1, qe1, pe1, hxt0t1, hxt1t0, wt0t1, gi38, i38, Try.results103]
    · try dsimp only at h hr9
      obtain ⟨rfl, hr9⟩ := hr9
      cases h
      try simp -implicitDefEqProofs only [go_sem, Nat.reduceEqDiff, Nat.reduceAdd, Nat.reduceLT, Nat.reduceLeDiff, Nat.reduceMul, Nat.reduceBEq, reduceIte]
      exact hr9 rfl
theorem m_bound_engine_choose_ev (a0 : TBound_engine) (a1 : TBound_stage) (a2 : List TRat) (r0 : TRat × TBound_engine × (List TRat)) (h : m_bound_engine_choose a0 a1 a2 = some r0) (d : Nat) (G : Heap) (e0 t0 : Nat) (he0 : e0 ≤ d) (hGt0 : G e0 t0 = [.box [.p (.bool a0.f0)]]) (e1 t1 : Nat) (he1 : e1 ≤ d) (hGt1 : G e1 t1 = [.arr (a2.map cTRat)]) (hxt0t1 : (e0 = e1 ∧ t0 = t1) = False) : Tel Try.prog TB d 73 [.bp (e0, t0, 0) 0, .agg ((cTBound_stage a1).map .p), .arr (e1, t1, 0) a2.length 2] G (.agg ((cTRat r0.1).map .p)) (fillKey (fillKey (G) e0 t0 ([.box [.p (.bool r0.2.1.f0)]])) e1 t1 ([.arr (r0.2.2.map cTRat)])) := by
  unfold m_bound_engine_choose at h
  refine Tel.intro mix Try.func73 rfl (Nat.le_of_ble_eq_true rfl) {openAt := fun t => t == 18 || t == 26 || t == 53 || t == 63 || t == 70 || t == 82, frzAt := fun t => t == 4 || t == 50 || t == 60 || t == 67 || t == 79} (by kernel_rfl) (by kernel_rfl) ?_
  have le0 : (e0 ≤ d + 1) = True := by simp; omega
  have qe0 : (e0 = d + 1) = False := by simp; omega
  have pe0 : (d + 1 = e0) = False := by simp; omega
  have le1 : (e1 ≤ d + 1) = True := by simp; omega
  have qe1 : (e1 = d + 1) = False := by simp; omega
  have pe1 : (d + 1 = e1) = False := by simp; omega
  have hxt1t0 : (e1 = e0 ∧ t1 = t0) = False := by rw [← hxt0t1]; simp only [eq_comm]
  have wt0t1 := fk_swap (a := e1) (b := t1) (a' := e0) (b' := t0) (fun x => by rw [← hxt1t0]; exact x)
  refine gwp_heap (H' := fillKey (fillKey (cut d G) e0 t0 [.box [.p (.bool a0.f0)]]) e1 t1 [.arr (a2.map cTRat)]) ?_ ?_
  · rw [fill_self (B := cut d G) (a := e0) (b := t0) (by rw [cut_app, if_pos he0]; exact hGt0), fill_self (B := cut d G) (a := e1) (b := t1) (by rw [cut_app, if_pos he1]; exact hGt1)]
  generalize hQ : callPost _ _ _ _ _ = Q
  obtain ⟨r1, hr1, h⟩ := bs h
  simp -implicitDefEqProofs only [go_sem, Nat.reduceEqDiff, Nat.reduceAdd, Nat.reduceLT, Nat.reduceLeDiff, Nat.reduceMul, Nat.reduceBEq, reduceIte, he0, le0, qe0, pe0, he1, le1, qe1, pe1, hxt0t1, hxt1t0, wt0t1]
  refine call_open0 (t0 := 999) (r := .tup [.agg [.p (.int .i64 r1.1.f0), .p (.int .i64 r1.1.f1)], .p (.bool r1.2.1)]) (m_bound_engine_edge_ev a0 a1.f0 a2 true r1 hr1 (d + 1) _ e0 t0 (Nat.le_succ_of_le he0) (by simp -implicitDefEqProofs only [go_sem, Nat.reduceEqDiff, Nat.reduceAdd, Nat.reduceLT, Nat.reduceLeDiff, Nat.reduceMul, Nat.reduceBEq, reduceIte, he0, le0, qe0, pe0, he1, le1, qe1, pe1, hxt0t1, hxt1t0, wt0t1])  e1 t1 (Nat.le_succ_of_le he1) (by simp -implicitDefEqProofs only [go_sem, Nat.reduceEqDiff, Nat.reduceAdd, Nat.reduceLT, Nat.reduceLeDiff, Nat.reduceMul, Nat.reduceBEq, reduceIte, he0, le0, qe0, pe0, he1, le1, qe1, pe1, hxt0t1, hxt1t0, wt0t1])  hxt0t1) (by simp -implicitDefEqProofs only [go_sem, Nat.reduceEqDiff, Nat.reduceAdd, Nat.reduceLT, Nat.reduceLeDiff, Nat.reduceMul, Nat.reduceBEq, reduceIte, he0, le0, qe0, pe0, he1, le1, qe1, pe1, hxt0t1, hxt1t0, wt0t1]) rfl (by simp -implicitDefEqProofs only [go_sem, Nat.reduceEqDiff, Nat.reduceAdd, Nat.reduceLT, Nat.reduceLeDiff, Nat.reduceMul, Nat.reduceBEq, reduceIte, he0, le0, qe0, pe0, he1, le1, qe1, pe1, hxt0t1, hxt1t0, wt0t1]) (by simp -implicitDefEqProofs only [go_sem, Nat.reduceEqDiff, Nat.reduceAdd, Nat.reduceLT, Nat.reduceLeDiff, Nat.reduceMul, Nat.reduceBEq, reduceIte, he0, le0, qe0, pe0, he1, le1, qe1, pe1, hxt0t1, hxt1t0, wt0t1]) (by simp -implicitDefEqProofs only [go_sem, Nat.reduceEqDiff, Nat.reduceAdd, Nat.reduceLT, Nat.reduceLeDiff, Nat.reduceMul, Nat.reduceBEq, reduceIte]) ?_
  have cl2 : (r1.2.2.2).length = ((a2 : List TRat)).length := by have := len_edge hr1; (try simp only [List.length_set] at this); first | exact this | exact this.trans rfl
  have cv2 := arV_len (c := cTRat) (κ := (e1, t1, 0)) (n := 2) cl2
  have ce2 := nil_len cl2
  obtain ⟨r3, hr3, h⟩ := bs h
  simp -implicitDefEqProofs only [go_sem, Nat.reduceEqDiff, Nat.reduceAdd, Nat.reduceLT, Nat.reduceLeDiff, Nat.reduceMul, Nat.reduceBEq, reduceIte, he0, le0, qe0, pe0, he1, le1, qe1, pe1, hxt0t1, hxt1t0, wt0t1, cl2, cv2, ce2]
  refine call_open0 (t0 := 999) (r := .tup [.agg [.p (.int .i64 r3.1.f0), .p (.int .i64 r3.1.f1)], .p (.bool r3.2.1)]) (m_bound_engine_edge_ev r1.2.2.1 a1.f1 r1.2.2.2 false r3 hr3 (d + 1) _ e0 t0 (Nat.le_succ_of_le he0) (by simp -implicitDefEqProofs only [go_sem, Nat.reduceEqDiff, Nat.reduceAdd, Nat.reduceLT, Nat.reduceLeDiff, Nat.reduceMul, Nat.reduceBEq, reduceIte, he0, le0, qe0, pe0, he1, le1, qe1, pe1, hxt0t1, hxt1t0, wt0t1, cl2, cv2, ce2])  e1 t1 (Nat.le_succ_of_le he1) (by simp -implicitDefEqProofs only [go_sem, Nat.reduceEqDiff, Nat.reduceAdd, Nat.reduceLT, Nat.reduceLeDiff, Nat.reduceMul, Nat.reduceBEq, reduceIte, he0, le0, qe0, pe0, he1, le1, qe1, pe1, hxt0t1, hxt1t0, wt0t1, cl2, cv2, ce2])  hxt0t1) (by simp -implicitDefEqProofs only [go_sem, Nat.reduceEqDiff, Nat.reduceAdd, Nat.reduceLT, Nat.reduceLeDiff, Nat.reduceMul, Nat.reduceBEq, reduceIte, he0, le0, qe0, pe0, he1, le1, qe1, pe1, hxt0t1, hxt1t0, wt0t1, cl2, cv2, ce2]) rfl (by simp -implicitDefEqProofs only [go_sem, Nat.reduceEqDiff, Nat.reduceAdd, Nat.reduceLT, Nat.reduceLeDiff, Nat.reduceMul, Nat.reduceBEq, reduceIte, he0, le0, qe0, pe0, he1, le1, qe1, pe1, hxt0t1, hxt1t0, wt0t1, cl2, cv2, ce2]) (by simp -implicitDefEqProofs only [go_sem, Nat.reduceEqDiff, Nat.reduceAdd, Nat.reduceLT, Nat.reduceLeDiff, Nat.reduceMul, Nat.reduceBEq, reduceIte, he0, le0, qe0, pe0, he1, le1, qe1, pe1, hxt0t1, hxt1t0, wt0t1, cl2, cv2, ce2]) (by simp -implicitDefEqProofs only [go_sem, Nat.reduceEqDiff, Nat.reduceAdd, Nat.reduceLT, Nat.reduceLeDiff, Nat.reduceMul, Nat.reduceBEq, reduceIte]) ?_
  have cl4 : (r3.2.2.2).length = ((a2 : List TRat)).length := by have := len_edge hr3; (try simp only [List.length_set] at this); first | exact this | exact this.trans cl2
  have cv4 := arV_len (c := cTRat) (κ := (e1, t1, 0)) (n := 2) cl4
  have ce4 := nil_len cl4
  simp -implicitDefEqProofs only [go_sem, Nat.reduceEqDiff, Nat.reduceAdd, Nat.reduceLT, Nat.reduceLeDiff, Nat.reduceMul, Nat.reduceBEq, reduceIte, he0, le0, qe0, pe0, he1, le1, qe1, pe1, hxt0t1, hxt1t0, wt0t1, cl2, cv2, ce2, cl4, cv4, ce4]
  obtain ⟨v5, hz, h⟩ := bs h
  obtain ⟨R6, hR6⟩ : ∃ R : St → Prop, R = fun s => s.G = fillKey (fillKey (fillKey (fillKey (fillKey (fillKey (cut d G) e0 t0 [.box [.p (.bool r3.2.2.1.f0)]]) e1 t1 [.arr (r3.2.2.2.map cTRat)]) (d + 1) 6 [.box [.p (.int .i64 0), .p (.int .i64 0)]]) (d + 1) 7 [.box [.p (.int .i64 r1.1.f0), .p (.int .i64 r1.1.f1)]]) (d + 1) 9 [.box [.p (.int .i64 r3.1.f0), .p (.int .i64 r3.1.f1)]]) (d + 1) 11 [.box [.p (.int .i64 1), .p (.int .i64 1)]] ∧ s.F 0 = .bp (e0, t0, 0) 0 ∧ s.F 6 = .bp (d + 1, 6, 0) 0 ∧ s.F 7 = .bp (d + 1, 7, 0) 0 ∧ s.F 8 = .p (.bool r1.2.1) ∧ s.F 9 = .bp (d + 1, 9, 0) 0 ∧ s.F 10 = .p (.bool r3.2.1) ∧ s.F 11 = .bp (d + 1, 11, 0) 0 ∧ s.F 30 = .p (.bool v5) ∧ True := ⟨_, rfl⟩
  refine cutR R6 ?_ ?_
  · replace h := hz
    rcases ib h with ⟨c7, h⟩ | ⟨c7, h⟩
    · cases h
      simp -implicitDefEqProofs only [go_sem, Nat.reduceEqDiff, Nat.reduceAdd, Nat.reduceLT, Nat.reduceLeDiff, Nat.reduceMul, Nat.reduceBEq, reduceIte, he0, le0, qe0, pe0, he1, le1, qe1, pe1, hxt0t1, hxt1t0, wt0t1, cl2, cv2, ce2, cl4, cv4, ce4, c7]
      rw [hR6]
      simp -implicitDefEqProofs only [go_sem, Nat.reduceEqDiff, Nat.reduceAdd, Nat.reduceLT, Nat.reduceLeDiff, Nat.reduceMul, Nat.reduceBEq, reduceIte, he0, le0, qe0, pe0, he1, le1, qe1, pe1, hxt0t1, hxt1t0, wt0t1, cl2, cv2, ce2, cl4, cv4, ce4, c7]
    · rcases ib h with ⟨c8, h⟩ | ⟨c8, h⟩
      · cases h
        simp -implicitDefEqProofs only [go_sem, Nat.reduceEqDiff, Nat.reduceAdd, Nat.reduceLT, Nat.reduceLeDiff, Nat.reduceMul, Nat.reduceBEq, reduceIte, he0, le0, qe0, pe0, he1, le1, qe1, pe1, hxt0t1, hxt1t0, wt0t1, cl2, cv2, ce2, cl4, cv4, ce4, c7, c8]
        rw [hR6]
        simp -implicitDefEqProofs only [go_sem, Nat.reduceEqDiff, Nat.reduceAdd, Nat.reduceLT, Nat.reduceLeDiff, Nat.reduceMul, Nat.reduceBEq, reduceIte, he0, le0, qe0, pe0, he1, le1, qe1, pe1, hxt0t1, hxt1t0, wt0t1, cl2, cv2, ce2, cl4, cv4, ce4, c7, c8]
      · cases h
        simp -implicitDefEqProofs only [go_sem, Nat.reduceEqDiff, Nat.reduceAdd, Nat.reduceLT, Nat.reduceLeDiff, Nat.reduceMul, Nat.reduceBEq, reduceIte, he0, le0, qe0, pe0, he1, le1, qe1, pe1, hxt0t1, hxt1t0, wt0t1, cl2, cv2, ce2, cl4, cv4, ce4, c7, c8]
        rw [hR6]
        simp -implicitDefEqProofs only [go_sem, Nat.reduceEqDiff, Nat.reduceAdd, Nat.reduceLT, Nat.reduceLeDiff, Nat.reduceMul, Nat.reduceBEq, reduceIte, he0, le0, qe0, pe0, he1, le1, qe1, pe1, hxt0t1, hxt1t0, wt0t1, cl2, cv2, ce2, cl4, cv4, ce4, c7, c8]
  · replace h := h; clear hz
    rintro s i
    rw [hR6] at i
    obtain ⟨gi9, i9⟩ := i
    clear hR6
    try dsimp only at h
    rcases ib h with ⟨c10, h⟩ | ⟨c10, h⟩
    · cases h
      subst hQ
      simp -implicitDefEqProofs only [go_sem, Nat.reduceEqDiff, Nat.reduceAdd, Nat.reduceLT, Nat.reduceLeDiff, Nat.reduceMul, Nat.reduceBEq, reduceIte, he0, le0, qe0, pe0, he1, le1, qe1, pe1, hxt0t1, hxt1t0, wt0t1, cl2, cv2, ce2, cl4, cv4, ce4, gi9, i9, c10, Try.results73]
    · rcases ib h with ⟨c11, h⟩ | ⟨c11, h⟩
      · obtain ⟨r12, hr12, h⟩ := bs h
        simp -implicitDefEqProofs only [go_sem, Nat.reduceEqDiff, Nat.reduceAdd, Nat.reduceLT, Nat.reduceLeDiff, Nat.reduceMul, Nat.reduceBEq, reduceIte, he0, le0, qe0, pe0, he1, le1, qe1, pe1, hxt0t1, hxt1t0, wt0t1, cl2, cv2, ce2, cl4, cv4, ce4, gi9, i9, c10, c11]
        refine call_frz (r' := .tup [.agg [.p (.int .i64 r12.1.f0), .p (.int .i64 r12.1.f1)], .p (.int .i64 r12.2)]) (m_rat_Add_ev r1.1 (⟨1, 1⟩ : TRat) r12 hr12 (d + 1) empty) (by simp -implicitDefEqProofs only [go_sem, Nat.reduceEqDiff, Nat.reduceAdd, Nat.reduceLT, Nat.reduceLeDiff, Nat.reduceMul, Nat.reduceBEq, reduceIte, he0, le0, qe0, pe0, he1, le1, qe1, pe1, hxt0t1, hxt1t0, wt0t1, cl2, cv2, ce2, cl4, cv4, ce4, gi9, i9, c10, c11]) rfl (by simp -implicitDefEqProofs only [go_sem, Nat.reduceEqDiff, Nat.reduceAdd, Nat.reduceLT, Nat.reduceLeDiff, Nat.reduceMul, Nat.reduceBEq, reduceIte]) (by simp -implicitDefEqProofs only [go_sem, Nat.reduceEqDiff, Nat.reduceAdd, Nat.reduceLT, Nat.reduceLeDiff, Nat.reduceMul, Nat.reduceBEq, reduceIte]) ?_ rfl rfl
        obtain ⟨r13, hr13, h⟩ := bs h
        simp -implicitDefEqProofs only [go_sem, Nat.reduceEqDiff, Nat.reduceAdd, Nat.reduceLT, Nat.reduceLeDiff, Nat.reduceMul, Nat.reduceBEq, reduceIte, he0, le0, qe0, pe0, he1, le1, qe1, pe1, hxt0t1, hxt1t0, wt0t1, cl2, cv2, ce2, cl4, cv4, ce4, gi9, i9, c10, c11]
        refine call_open0 (t0 := 999) (r := .agg [.p (.int .i64 r13.1.f0), .p (.int .i64 r13.1.f1)]) (m_bound_engine_rat_ev r3.2.2.1 r12.1 r12.2 r13 hr13 (d + 1) _ e0 t0 (Nat.le_succ_of_le he0) (by simp -implicitDefEqProofs only [go_sem, Nat.reduceEqDiff, Nat.reduceAdd, Nat.reduceLT, Nat.reduceLeDiff, Nat.reduceMul, Nat.reduceBEq, reduceIte, he0, le0, qe0, pe0, he1, le1, qe1, pe1, hxt0t1, hxt1t0, wt0t1, cl2, cv2, ce2, cl4, cv4, ce4, gi9, i9, c10, c11]) ) (by simp -implicitDefEqProofs only [go_sem, Nat.reduceEqDiff, Nat.reduceAdd, Nat.reduceLT, Nat.reduceLeDiff, Nat.reduceMul, Nat.reduceBEq, reduceIte, he0, le0, qe0, pe0, he1, le1, qe1, pe1, hxt0t1, hxt1t0, wt0t1, cl2, cv2, ce2, cl4, cv4, ce4, gi9, i9, c10, c11]) rfl (by simp -implicitDefEqProofs only [go_sem, Nat.reduceEqDiff, Nat.reduceAdd, Nat.reduceLT, Nat.reduceLeDiff, Nat.reduceMul, Nat.reduceBEq, reduceIte, he0, le0, qe0, pe0, he1, le1, qe1, pe1, hxt0t1, hxt1t0, wt0t1, cl2, cv2, ce2, cl4, cv4, ce4, gi9, i9, c10, c11]) (by simp -implicitDefEqProofs only [go_sem, Nat.reduceEqDiff, Nat.reduceAdd, Nat.reduceLT, Nat.reduceLeDiff, Nat.reduceMul, Nat.reduceBEq, reduceIte, he0, le0, qe0, pe0, he1, le1, qe1, pe1, hxt0t1, hxt1t0, wt0t1, cl2, cv2, ce2, cl4, cv4, ce4, gi9, i9, c10, c11]) (by simp -implicitDefEqProofs only [go_sem, Nat.reduceEqDiff, Nat.reduceAdd, Nat.reduceLT, Nat.reduceLeDiff, Nat.reduceMul, Nat.reduceBEq, reduceIte]) ?_
        cases h
        subst hQ
        simp -implicitDefEqProofs only [go_sem, Nat.reduceEqDiff, Nat.reduceAdd, Nat.reduceLT, Nat.reduceLeDiff, Nat.reduceMul, Nat.reduceBEq, reduceIte, he0, le0, qe0, pe0, he1, le1, qe1, pe1, hxt0t1, hxt1t0, wt0t1, cl2, cv2, ce2, cl4, cv4, ce4, gi9, i9, c10, c11, Try.results73]
      · rcases ib h with ⟨c14, h⟩ | ⟨c14, h⟩
        · obtain ⟨r15, hr15, h⟩ := bs h
          simp -implicitDefEqProofs only [go_sem, Nat.reduceEqDiff, Nat.reduceAdd, Nat.reduceLT, Nat.reduceLeDiff, Nat.reduceMul, Nat.reduceBEq, reduceIte, he0, le0, qe0, pe0, he1, le1, qe1, pe1, hxt0t1, hxt1t0, wt0t1, cl2, cv2, ce2, cl4, cv4, ce4, gi9, i9, c10, c11, c14]
          refine call_frz (r' := .tup [.agg [.p (.int .i64 r15.1.f0), .p (.int .i64 r15.1.f1)], .p (.int .i64 r15.2)]) (m_rat_Sub_ev r3.1 (⟨1, 1⟩ : TRat) r15 hr15 (d + 1) empty) (by simp -implicitDefEqProofs only [go_sem, Nat.reduceEqDiff, Nat.reduceAdd, Nat.reduceLT, Nat.reduceLeDiff, Nat.reduceMul, Nat.reduceBEq, reduceIte, he0, le0, qe0, pe0, he1, le1, qe1, pe1, hxt0t1, hxt1t0, wt0t1, cl2, cv2, ce2, cl4, cv4, ce4, gi9, i9, c10, c11, c14]) rfl (by simp -implicitDefEqProofs only [go_sem, Nat.reduceEqDiff, Nat.reduceAdd, Nat.reduceLT, Nat.reduceLeDiff, Nat.reduceMul, Nat.reduceBEq, reduceIte]) (by simp -implicitDefEqProofs only [go_sem, Nat.reduceEqDiff, Nat.reduceAdd, Nat.reduceLT, Nat.reduceLeDiff, Nat.reduceMul, Nat.reduceBEq, reduceIte]) ?_ rfl rfl
          obtain ⟨r16, hr16, h⟩ := bs h
          simp -implicitDefEqProofs only [go_sem, Nat.reduceEqDiff, Nat.reduceAdd, Nat.reduceLT, Nat.reduceLeDiff, Nat.reduceMul, Nat.reduceBEq, reduceIte, he0, le0, qe0, pe0, he1, le1, qe1, pe1, hxt0t1, hxt1t0, wt0t1, cl2, cv2, ce2, cl4, cv4, ce4, gi9, i9, c10, c11, c14]
          refine call_open0 (t0 := 999) (r := .agg [.p (.int .i64 r16.1.f0), .p (.int .i64 r16.1.f1)]) (m_bound_engine_rat_ev r3.2.2.1 r15.1 r15.2 r16 hr16 (d + 1) _ e0 t0 (Nat.le_succ_of_le he0) (by simp -implicitDefEqProofs only [go_sem, Nat.reduceEqDiff, Nat.reduceAdd, Nat.reduceLT, Nat.reduceLeDiff, Nat.reduceMul, Nat.reduceBEq, reduceIte, he0, le0, qe0, pe0, he1, le1, qe1, pe1, hxt0t1, hxt1t0, wt0t1, cl2, cv2, ce2, cl4, cv4, ce4, gi9, i9, c10, c11, c14]) ) (by simp -implicitDefEqProofs only [go_sem, Nat.reduceEqDiff, Nat.reduceAdd, Nat.reduceLT, Nat.reduceLeDiff, Nat.reduceMul, Nat.reduceBEq, reduceIte, he0, le0, qe0, pe0, he1, le1, qe1, pe1, hxt0t1, hxt1t0, wt0t1, cl2, cv2, ce2, cl4, cv4, ce4, gi9, i9, c10, c11, c14]) rfl (by simp -implicitDefEqProofs only [go_sem, Nat.reduceEqDiff, Nat.reduceAdd, Nat.reduceLT, Nat.reduceLeDiff, Nat.reduceMul, Nat.reduceBEq, reduceIte, he0, le0, qe0, pe0, he1, le1, qe1, pe1, hxt0t1, hxt1t0, wt0t1, cl2, cv2, ce2, cl4, cv4, ce4, gi9, i9, c10, c11, c14]) (by simp -implicitDefEqProofs only [go_sem, Nat.reduceEqDiff, Nat.reduceAdd, Nat.reduceLT, Nat.reduceLeDiff, Nat.reduceMul, Nat.reduceBEq, reduceIte, he0, le0, qe0, pe0, he1, le1, qe1, pe1, hxt0t1, hxt1t0, wt0t1, cl2, cv2, ce2, cl4, cv4, ce4, gi9, i9, c10, c11, c14]) (by simp -implicitDefEqProofs only [go_sem, Nat.reduceEqDiff, Nat.reduceAdd, Nat.reduceLT, Nat.reduceLeDiff, Nat.reduceMul, Nat.reduceBEq, reduceIte]) ?_
          cases h
          subst hQ
          simp -implicitDefEqProofs only [go_sem, Nat.reduceEqDiff, Nat.reduceAdd, Nat.reduceLT, Nat.reduceLeDiff, Nat.reduceMul, Nat.reduceBEq, reduceIte, he0, le0, qe0, pe0, he1, le1, qe1, pe1, hxt0t1, hxt1t0, wt0t1, cl2, cv2, ce2, cl4, cv4, ce4, gi9, i9, c10, c11, c14, Try.results73]
        · obtain ⟨r17, hr17, h⟩ := bs h
          simp -implicitDefEqProofs only [go_sem, Nat.reduceEqDiff, Nat.reduceAdd, Nat.reduceLT, Nat.reduceLeDiff, Nat.reduceMul, Nat.reduceBEq, reduceIte, he0, le0, qe0, pe0, he1, le1, qe1, pe1, hxt0t1, hxt1t0, wt0t1, cl2, cv2, ce2, cl4, cv4, ce4, gi9, i9, c10, c11, c14]
          refine call_frz (r' := .tup [.agg [.p (.int .i64 r17.1.f0), .p (.int .i64 r17.1.f1)], .p (.int .i64 r17.2)]) (m_rat_Add_ev r1.1 r3.1 r17 hr17 (d + 1) empty) (by simp -implicitDefEqProofs only [go_sem, Nat.reduceEqDiff, Nat.reduceAdd, Nat.reduceLT, Nat.reduceLeDiff, Nat.reduceMul, Nat.reduceBEq, reduceIte, he0, le0, qe0, pe0, he1, le1, qe1, pe1, hxt0t1, hxt1t0, wt0t1, cl2, cv2, ce2, cl4, cv4, ce4, gi9, i9, c10, c11, c14]) rfl (by simp -implicitDefEqProofs only [go_sem, Nat.reduceEqDiff, Nat.reduceAdd, Nat.reduceLT, Nat.reduceLeDiff, Nat.reduceMul, Nat.reduceBEq, reduceIte]) (by simp -implicitDefEqProofs only [go_sem, Nat.reduceEqDiff, Nat.reduceAdd, Nat.reduceLT, Nat.reduceLeDiff, Nat.reduceMul, Nat.reduceBEq, reduceIte]) ?_ rfl rfl
          obtain ⟨r18, hr18, h⟩ := bs h
          simp -implicitDefEqProofs only [go_sem, Nat.reduceEqDiff, Nat.reduceAdd, Nat.reduceLT, Nat.reduceLeDiff, Nat.reduceMul, Nat.reduceBEq, reduceIte, he0, le0, qe0, pe0, he1, le1, qe1, pe1, hxt0t1, hxt1t0, wt0t1, cl2, cv2, ce2, cl4, cv4, ce4, gi9, i9, c10, c11, c14]
          refine call_open0 (t0 := 999) (r := .agg [.p (.int .i64 r18.1.f0), .p (.int .i64 r18.1.f1)]) (m_bound_engine_rat_ev r3.2.2.1 r17.1 r17.2 r18 hr18 (d + 1) _ e0 t0 (Nat.le_succ_of_le he0) (by simp -implicitDefEqProofs only [go_sem, Nat.reduceEqDiff, Nat.reduceAdd, Nat.reduceLT, Nat.reduceLeDiff, Nat.reduceMul, Nat.reduceBEq, reduceIte, he0, le0, qe0, pe0, he1, le1, qe1, pe1, hxt0t1, hxt1t0, wt0t1, cl2, cv2, ce2, cl4, cv4, ce4, gi9, i9, c10, c11, c14]) ) (by simp -implicitDefEqProofs only [go_sem, Nat.reduceEqDiff, Nat.reduceAdd, Nat.reduceLT, Nat.reduceLeDiff, Nat.reduceMul, Nat.reduceBEq, reduceIte, he0, le0, qe0, pe0, he1, le1, qe1, pe1, hxt0t1, hxt1t0, wt0t1, cl2, cv2, ce2, cl4, cv4, ce4, gi9, i9, c10, c11, c14]) rfl (by simp -implicitDefEqProofs only [go_sem, Nat.reduceEqDiff, Nat.reduceAdd, Nat.reduceLT, Nat.reduceLeDiff, Nat.reduceMul, Nat.reduceBEq, reduceIte, he0, le0, qe0, pe0, he1, le1, qe1, pe1, hxt0t1, hxt1t0, wt0t1, cl2, cv2, ce2, cl4, cv4, ce4, gi9, i9, c10, c11, c14]) (by simp -implicitDefEqProofs only [go_sem, Nat.reduceEqDiff, Nat.reduceAdd, Nat.reduceLT, Nat.reduceLeDiff, Nat.reduceMul, Nat.reduceBEq, reduceIte, he0, le0, qe0, pe0, he1, le1, qe1, pe1, hxt0t1, hxt1t0, wt0t1, cl2, cv2, ce2, cl4, cv4, ce4, gi9, i9, c10, c11, c14]) (by simp -implicitDefEqProofs only [go_sem, Nat.reduceEqDiff, Nat.reduceAdd, Nat.reduceLT, Nat.reduceLeDiff, Nat.reduceMul, Nat.reduceBEq, reduceIte]) ?_
          rcases ib h with ⟨c19, h⟩ | ⟨c19, h⟩
          · cases h
            subst hQ
            simp -implicitDefEqProofs only [go_sem, Nat.reduceEqDiff, Nat.reduceAdd, Nat.reduceLT, Nat.reduceLeDiff, Nat.reduceMul, Nat.reduceBEq, reduceIte, he0, le0, qe0, pe0, he1, le1, qe1, pe1, hxt0t1, hxt1t0, wt0t1, cl2, cv2, ce2, cl4, cv4, ce4, gi9, i9, c10, c11, c14, c19, Try.results73]
          · obtain ⟨r20, hr20, h⟩ := bs h
            simp -implicitDefEqProofs only [go_sem, Nat.reduceEqDiff, Nat.reduceAdd, Nat.reduceLT, Nat.reduceLeDiff, Nat.reduceMul, Nat.reduceBEq, reduceIte, he0, le0, qe0, pe0, he1, le1, qe1, pe1, hxt0t1, hxt1t0, wt0t1, cl2, cv2, ce2, cl4, cv4, ce4, gi9, i9, c10, c11, c14, c19]
            refine call_frz (r' := .tup [.agg [.p (.int .i64 r20.1.f0), .p (.int .i64 r20.1.f1)], .p (.int .i64 r20.2)]) (m_rat_Mul_ev r18.1 (⟨1, 2⟩ : TRat) r20 hr20 (d + 1) empty) (by simp -implicitDefEqProofs only [go_sem, Nat.reduceEqDiff, Nat.reduceAdd, Nat.reduceLT, Nat.reduceLeDiff, Nat.reduceMul, Nat.reduceBEq, reduceIte, he0, le0, qe0, pe0, he1, le1, qe1, pe1, hxt0t1, hxt1t0, wt0t1, cl2, cv2, ce2, cl4, cv4, ce4, gi9, i9, c10, c11, c14, c19]) rfl (by simp -implicitDefEqProofs only [go_sem, Nat.reduceEqDiff, Nat.reduceAdd, Nat.reduceLT, Nat.reduceLeDiff, Nat.reduceMul, Nat.reduceBEq, reduceIte]) (by simp -implicitDefEqProofs only [go_sem, Nat.reduceEqDiff, Nat.reduceAdd, Nat.reduceLT, Nat.reduceLeDiff, Nat.reduceMul, Nat.reduceBEq, reduceIte]) ?_ rfl rfl
            obtain ⟨r21, hr21, h⟩ := bs h
            simp -implicitDefEqProofs only [go_sem, Nat.reduceEqDiff, Nat.reduceAdd, Nat.reduceLT, Nat.reduceLeDiff, Nat.reduceMul, Nat.reduceBEq, reduceIte, he0, le0, qe0, pe0, he1, le1, qe1, pe1, hxt0t1, hxt1t0, wt0t1, cl2, cv2, ce2, cl4, cv4, ce4, gi9, i9, c10, c11, c14, c19]
            refine call_open0 (t0 := 999) (r := .agg [.p (.int .i64 r21.1.f0), .p (.int .i64 r21.1.f1)]) (m_bound_engine_rat_ev r18.2 r20.1 r20.2 r21 hr21 (d + 1) _ e0 t0 (Nat.le_succ_of_le he0) (by simp -implicitDefEqProofs only [go_sem, Nat.reduceEqDiff, Nat.reduceAdd, Nat.reduceLT, Nat.reduceLeDiff, Nat.reduceMul, Nat.reduceBEq, reduceIte, he0, le0, qe0, pe0, he1, le1, qe1, pe1, hxt0t1, hxt1t0, wt0t1, cl2, cv2, ce2, cl4, cv4, ce4, gi9, i9, c10, c11, c14, c19]) ) (by simp -implicitDefEqProofs only [go_sem, Nat.reduceEqDiff, Nat.reduceAdd, Nat.reduceLT, Nat.reduceLeDiff, Nat.reduceMul, Nat.reduceBEq, reduceIte, he0, le0, qe0, pe0, he1, le1, qe1, pe1, hxt0t1, hxt1t0, wt0t1, cl2, cv2, ce2, cl4, cv4, ce4, gi9, i9, c10, c11, c14, c19]) rfl (by simp -implicitDefEqProofs only [go_sem, Nat.reduceEqDiff, Nat.reduceAdd, Nat.reduceLT, Nat.reduceLeDiff, Nat.reduceMul, Nat.reduceBEq, reduceIte, he0, le0, qe0, pe0, he1, le1, qe1, pe1, hxt0t1, hxt1t0, wt0t1, cl2, cv2, ce2, cl4, cv4, ce4, gi9, i9, c10, c11, c14, c19]) (by simp -implicitDefEqProofs only [go_sem, Nat.reduceEqDiff, Nat.reduceAdd, Nat.reduceLT, Nat.reduceLeDiff, Nat.reduceMul, Nat.reduceBEq, reduceIte, he0, le0, qe0, pe0, he1, le1, qe1, pe1, hxt0t1, hxt1t0, wt0t1, cl2, cv2, ce2, cl4, cv4, ce4, gi9, i9, c10, c11, c14, c19]) (by simp -implicitDefEqProofs only [go_sem, Nat.reduceEqDiff, Nat.reduceAdd, Nat.reduceLT, Nat.reduceLeDiff, Nat.reduceMul, Nat.reduceBEq, reduceIte]) ?_
            cases h
            subst hQ
            simp -implicitDefEqProofs only [go_sem, Nat.reduceEqDiff, Nat.reduceAdd, Nat.reduceLT, Nat.reduceLeDiff, Nat.reduceMul, Nat.reduceBEq, reduceIte, he0, le0, qe0, pe0, he1, le1, qe1, pe1, hxt0t1, hxt1t0, wt0t1, cl2, cv2, ce2, cl4, cv4, ce4, gi9, i9, c10, c11, c14, c19, Try.results73]
end Go.E
end
section
set_option linter.all false
set_option maxRecDepth 100000
namespace Go.E
open Go Go.Proofs Go.Eng
variable {TB : Nat → Option Obj}
theorem m_bound_engine_witness_ev (a0 : TBound_engine) (a1 : List TBound_stage) (a2 : List TTerm) (a3 : List Int) (r0 : (List TRat) × TBound_engine) (h : m_bound_engine_witness a0 a1 a2 a3 = some r0) (d : Nat) (G : Heap) (e0 t0 : Nat) (he0 : e0 ≤ d) (hGt0 : G e0 t0 = [.box [.p (.bool a0.f0)]]) : Tel Try.prog TB d 41 [.bp (e0, t0, 0) 0, .p (.sl (a1.map cTBound_stage)), .p (.sl (a2.map cTTerm)), .p (.sl (a3.map cii64))] G (.own (r0.1.map cTRat) 2) (fillKey (G) e0 t0 ([.box [.p (.bool r0.2.f0)]])) := by
  unfold m_bound_engine_witness at h
  refine Tel.intro mix Try.func41 rfl (Nat.le_of_ble_eq_true rfl) {openAt := fun t => t == 40 || t == 59, borAt := fun t => t == 56, frzAt := fun t => t == 30, boxAt := fun t => if t = 63 then some 900063 else if t = 65 then some 13 else if t = 68 then some 13 else none, clean := fun r => if r = 8 then [12, 13] else []} (by kernel_rfl) (by kernel_rfl) ?_
  have le0 : (e0 ≤ d + 1) = True := by simp; omega
  have qe0 : (e0 = d + 1) = False := by simp; omega
  have pe0 : (d + 1 = e0) = False := by simp; omega
  refine gwp_heap (H' := fillKey (cut d G) e0 t0 [.box [.p (.bool a0.f0)]]) ?_ ?_
  · rw [fill_self (B := cut d G) (a := e0) (b := t0) (by rw [cut_app, if_pos he0]; exact hGt0)]
  generalize hQ : callPost _ _ _ _ _ = Q
  obtain ⟨r1, hr1, h⟩ := bs h
  simp -implicitDefEqProofs only [go_sem, Nat.reduceEqDiff, Nat.reduceAdd, Nat.reduceLT, Nat.reduceLeDiff, Nat.reduceMul, Nat.reduceBEq, reduceIte, he0, le0, qe0, pe0]
  refine call_own (r' := .arr (d + 1, 16, 0) r1.length 2) (os := [.arr (r1.map cTRat)]) (m_slices_Repeat_api_Rat_ev ([(⟨0, 1⟩ : TRat)]) 8 r1 hr1 (d + 1) empty) (by simp -implicitDefEqProofs only [go_sem, Nat.reduceEqDiff, Nat.reduceAdd, Nat.reduceLT, Nat.reduceLeDiff, Nat.reduceMul, Nat.reduceBEq, reduceIte, he0, le0, qe0, pe0]) rfl (by simp -implicitDefEqProofs only [go_sem, Nat.reduceEqDiff, Nat.reduceAdd, Nat.reduceLT, Nat.reduceLeDiff, Nat.reduceMul, Nat.reduceBEq, reduceIte]) (by simp -implicitDefEqProofs only [go_sem, Nat.reduceEqDiff, Nat.reduceAdd, Nat.reduceLT, Nat.reduceLeDiff, Nat.reduceMul, Nat.reduceBEq, reduceIte, he0, le0, qe0, pe0]) (by simp -implicitDefEqProofs only [go_sem, Nat.reduceEqDiff, Nat.reduceAdd, Nat.reduceLT, Nat.reduceLeDiff, Nat.reduceMul, Nat.reduceBEq, reduceIte]) ?_ rfl rfl
  simp -implicitDefEqProofs only [go_sem, Nat.reduceEqDiff, Nat.reduceAdd, Nat.reduceLT, Nat.reduceLeDiff, Nat.reduceMul, Nat.reduceBEq, reduceIte, he0, le0, qe0, pe0]
  obtain ⟨z8, hL8, h⟩ := bs h
  obtain ⟨I8, hI8⟩ : ∃ I : (Int × Bool × (List TRat)) → St → Prop, I = fun a s => match a with | (v9, v10, v11) => s.G = fillKey (fillKey (cut d G) e0 t0 [.box [.p (.bool v10)]]) (d + 1) 16 [.arr (v11.map cTRat)] ∧ s.F 0 = .bp (e0, t0, 0) 0 ∧ s.F 1 = .p (.sl (a1.map cTBound_stage)) ∧ s.F 2 = .p (.sl (a2.map cTTerm)) ∧ s.F 3 = .p (.sl (a3.map cii64)) ∧ s.F 9 = .arr (d + 1, 16, 0) v11.length 2 ∧ s.F 10 = .p (.int .i64 v9) ∧ True := ⟨_, rfl⟩
  obtain ⟨R8, hR8⟩ : ∃ R : (Bool × (List TRat)) → GE → St → Prop, R = fun x e s => match x with | (v12, v13) => e = .exit 0 ∧ s.G = fillKey (fillKey (cut d G) e0 t0 [.box [.p (.bool v12)]]) (d + 1) 16 [.arr (v13.map cTRat)] ∧ s.F 0 = .bp (e0, t0, 0) 0 ∧ s.F 2 = .p (.sl (a2.map cTTerm)) ∧ s.F 3 = .p (.sl (a3.map cii64)) ∧ s.F 9 = .arr (d + 1, 16, 0) v13.length 2 ∧ True := ⟨_, rfl⟩
  refine lp (ts := []) rfl hL8 I8 R8 ?_ ?_ ?_
  · rw [hI8]
    simp -implicitDefEqProofs only [go_sem, Nat.reduceEqDiff, Nat.reduceAdd, Nat.reduceLT, Nat.reduceLeDiff, Nat.reduceMul, Nat.reduceBEq, reduceIte, he0, le0, qe0, pe0]
  · clear h hL8
    rintro ⟨v9, v10, v11⟩ y s h i
    rw [hI8] at i
    obtain ⟨gi8, i8⟩ := i
    replace h : m_bound_engine_witness_L0 a3 a1 (v9, v10, v11) = some y := h
    unfold m_bound_engine_witness_L0 at h
    simp -implicitDefEqProofs only [go_sem, Nat.reduceEqDiff, Nat.reduceAdd, Nat.reduceLT, Nat.reduceLeDiff, Nat.reduceMul, Nat.reduceBEq, reduceIte, he0, le0, qe0, pe0, gi8, i8]
    obtain ⟨v14, hz, h⟩ := bs h
    obtain ⟨R15, hR15⟩ : ∃ R : St → Prop, R = fun s => s.G = fillKey (fillKey (cut d G) e0 t0 [.box [.p (.bool v10)]]) (d + 1) 16 [.arr (v11.map cTRat)] ∧ s.F 0 = .bp (e0, t0, 0) 0 ∧ s.F 1 = .p (.sl (a1.map cTBound_stage)) ∧ s.F 2 = .p (.sl (a2.map cTTerm)) ∧ s.F 3 = .p (.sl (a3.map cii64)) ∧ s.F 9 = .arr (d + 1, 16, 0) v11.length 2 ∧ s.F 10 = .p (.int .i64 v9) ∧ s.F 25 = .p (.bool v14) ∧ True := ⟨_, rfl⟩
    refine cutR R15 ?_ ?_
    · replace h := hz
      rcases ib h with ⟨c16, h⟩ | ⟨c16, h⟩
      · cases h
        simp -implicitDefEqProofs only [go_sem, Nat.reduceEqDiff, Nat.reduceAdd, Nat.reduceLT, Nat.reduceLeDiff, Nat.reduceMul, Nat.reduceBEq, reduceIte, he0, le0, qe0, pe0, gi8, i8, c16]
        rw [hR15]
        simp -implicitDefEqProofs only [go_sem, Nat.reduceEqDiff, Nat.reduceAdd, Nat.reduceLT, Nat.reduceLeDiff, Nat.reduceMul, Nat.reduceBEq, reduceIte, he0, le0, qe0, pe0, gi8, i8, c16]
      · cases h
        simp -implicitDefEqProofs only [go_sem, Nat.reduceEqDiff, Nat.reduceAdd, Nat.reduceLT, Nat.reduceLeDiff, Nat.reduceMul, Nat.reduceBEq, reduceIte, he0, le0, qe0, pe0, gi8, i8, c16]
        rw [hR15]
        simp -implicitDefEqProofs only [go_sem, Nat.reduceEqDiff, Nat.reduceAdd, Nat.reduceLT, Nat.reduceLeDiff, Nat.reduceMul, Nat.reduceBEq, reduceIte, he0, le0, qe0, pe0, gi8, i8, c16]
    · replace h := h; clear hz
      rintro s i
      rw [hR15] at i
      obtain ⟨gi17, i17⟩ := i
      clear hR15
      try dsimp only at h
      rcases ib h with ⟨c18, h⟩ | ⟨c18, h⟩
      · obtain ⟨r19, hr19, h⟩ := bs h
        simp -implicitDefEqProofs only [go_sem, Nat.reduceEqDiff, Nat.reduceAdd, Nat.reduceLT, Nat.reduceLeDiff, Nat.reduceMul, Nat.reduceBEq, reduceIte, he0, le0, qe0, pe0, gi8, i8, gi17, i17, c18]
        refine call_frz (r' := .p (.bool r19)) (m_slices_Contains_int_ev a3 v9 r19 hr19 (d + 1) empty) (by simp -implicitDefEqProofs only [go_sem, Nat.reduceEqDiff, Nat.reduceAdd, Nat.reduceLT, Nat.reduceLeDiff, Nat.reduceMul, Nat.reduceBEq, reduceIte, he0, le0, qe0, pe0, gi8, i8, gi17, i17, c18]) rfl (by simp -implicitDefEqProofs only [go_sem, Nat.reduceEqDiff, Nat.reduceAdd, Nat.reduceLT, Nat.reduceLeDiff, Nat.reduceMul, Nat.reduceBEq, reduceIte]) (by simp -implicitDefEqProofs only [go_sem, Nat.reduceEqDiff, Nat.reduceAdd, Nat.reduceLT, Nat.reduceLeDiff, Nat.reduceMul, Nat.reduceBEq, reduceIte]) ?_ rfl rfl
        simp -implicitDefEqProofs only [go_sem, Nat.reduceEqDiff, Nat.reduceAdd, Nat.reduceLT, Nat.reduceLeDiff, Nat.reduceMul, Nat.reduceBEq, reduceIte, he0, le0, qe0, pe0, gi8, i8, gi17, i17, c18]
        obtain ⟨⟨v20, v21⟩, hz, h⟩ := bs h
        obtain ⟨R22, hR22⟩ : ∃ R : St → Prop, R = fun s => s.G = fillKey (fillKey (cut d G) e0 t0 [.box [.p (.bool v20)]]) (d + 1) 16 [.arr (v21.map cTRat)] ∧ s.F 0 = .bp (e0, t0, 0) 0 ∧ s.F 1 = .p (.sl (a1.map cTBound_stage)) ∧ s.F 2 = .p (.sl (a2.map cTTerm)) ∧ s.F 3 = .p (.sl (a3.map cii64)) ∧ s.F 9 = .arr (d + 1, 16, 0) v21.length 2 ∧ s.F 10 = .p (.int .i64 v9) ∧ True := ⟨_, rfl⟩
        refine cutG R22 ?_ ?_
        · replace h := hz
          rcases ib h with ⟨c23, h⟩ | ⟨c23, h⟩
          · obtain ⟨v24, hv24, h⟩ := bs h
            replace hv24 := gis hv24
            obtain ⟨r25, hr25, h⟩ := bs h
            simp -implicitDefEqProofs only [go_sem, Nat.reduceEqDiff, Nat.reduceAdd, Nat.reduceLT, Nat.reduceLeDiff, Nat.reduceMul, Nat.reduceBEq, reduceIte, he0, le0, qe0, pe0, gi8, i8, gi17, i17, c18, c23, hv24]
            refine call_open0 (t0 := 999) (r := .agg [.p (.int .i64 r25.1.f0), .p (.int .i64 r25.1.f1)]) (m_bound_engine_choose_ev (⟨v10⟩ : TBound_engine) v24 v11 r25 hr25 (d + 1) _ e0 t0 (Nat.le_succ_of_le he0) (by simp -implicitDefEqProofs only [go_sem, Nat.reduceEqDiff, Nat.reduceAdd, Nat.reduceLT, Nat.reduceLeDiff, Nat.reduceMul, Nat.reduceBEq, reduceIte, he0, le0, qe0, pe0, gi8, i8, gi17, i17, c18, c23, hv24])  (d + 1) 16 (Nat.le_refl _) (by simp -implicitDefEqProofs only [go_sem, Nat.reduceEqDiff, Nat.reduceAdd, Nat.reduceLT, Nat.reduceLeDiff, Nat.reduceMul, Nat.reduceBEq, reduceIte, he0, le0, qe0, pe0, gi8, i8, gi17, i17, c18, c23, hv24])  (by simp [qe0])) (by simp -implicitDefEqProofs only [go_sem, Nat.reduceEqDiff, Nat.reduceAdd, Nat.reduceLT, Nat.reduceLeDiff, Nat.reduceMul, Nat.reduceBEq, reduceIte, he0, le0, qe0, pe0, gi8, i8, gi17, i17, c18, c23, hv24]) rfl (by simp -implicitDefEqProofs only [go_sem, Nat.reduceEqDiff, Nat.reduceAdd, Nat.reduceLT, Nat.reduceLeDiff, Nat.reduceMul, Nat.reduceBEq, reduceIte, he0, le0, qe0, pe0, gi8, i8, gi17, i17, c18, c23, hv24]) (by simp -implicitDefEqProofs only [go_sem, Nat.reduceEqDiff, Nat.reduceAdd, Nat.reduceLT, Nat.reduceLeDiff, Nat.reduceMul, Nat.reduceBEq, reduceIte, he0, le0, qe0, pe0, gi8, i8, gi17, i17, c18, c23, hv24]) (by simp -implicitDefEqProofs only [go_sem, Nat.reduceEqDiff, Nat.reduceAdd, Nat.reduceLT, Nat.reduceLeDiff, Nat.reduceMul, Nat.reduceBEq, reduceIte]) ?_
            have cl26 : (r25.2.2).length = ((v11 : List TRat)).length := by have := len_choose hr25; (try simp only [List.length_set] at this); first | exact this | exact this.trans rfl
            have cv26 := arV_len (c := cTRat) (κ := (d + 1, 16, 0)) (n := 2) cl26
            have ce26 := nil_len cl26
            obtain ⟨_, c27, h⟩ := bs h
            replace c27 := rqs c27
            obtain ⟨_, c28, h⟩ := bs h
            replace c28 := rqs c28
            obtain ⟨v29, hv29, h⟩ := bs h
            replace hv29 := gis hv29
            cases h
            simp -implicitDefEqProofs only [go_sem, Nat.reduceEqDiff, Nat.reduceAdd, Nat.reduceLT, Nat.reduceLeDiff, Nat.reduceMul, Nat.reduceBEq, reduceIte, he0, le0, qe0, pe0, gi8, i8, gi17, i17, c18, c23, hv24, cl26, cv26, ce26, c27, c28, hv29]
            rw [hR22]
            simp -implicitDefEqProofs only [go_sem, Nat.reduceEqDiff, Nat.reduceAdd, Nat.reduceLT, Nat.reduceLeDiff, Nat.reduceMul, Nat.reduceBEq, reduceIte, he0, le0, qe0, pe0, gi8, i8, gi17, i17, c18, c23, hv24, cl26, cv26, ce26, c27, c28, hv29]
          · cases h
            simp -implicitDefEqProofs only [go_sem, Nat.reduceEqDiff, Nat.reduceAdd, Nat.reduceLT, Nat.reduceLeDiff, Nat.reduceMul, Nat.reduceBEq, reduceIte, he0, le0, qe0, pe0, gi8, i8, gi17, i17, c18, c23]
            rw [hR22]
            simp -implicitDefEqProofs only [go_sem, Nat.reduceEqDiff, Nat.reduceAdd, Nat.reduceLT, Nat.reduceLeDiff, Nat.reduceMul, Nat.reduceBEq, reduceIte, he0, le0, qe0, pe0, gi8, i8, gi17, i17, c18, c23]
        · replace h := h; clear hz
          rintro s i
          rw [hR22] at i
          obtain ⟨gi30, i30⟩ := i
          clear hR22
          try dsimp only at h
          cases h
          simp -implicitDefEqProofs only [go_sem, Nat.reduceEqDiff, Nat.reduceAdd, Nat.reduceLT, Nat.reduceLeDiff, Nat.reduceMul, Nat.reduceBEq, reduceIte, he0, le0, qe0, pe0, gi8, i8, gi17, i17, c18, gi30, i30]
          rw [hI8]
          simp -implicitDefEqProofs only [go_sem, Nat.reduceEqDiff, Nat.reduceAdd, Nat.reduceLT, Nat.reduceLeDiff, Nat.reduceMul, Nat.reduceBEq, reduceIte, he0, le0, qe0, pe0, gi8, i8, gi17, i17, c18, gi30, i30]
      · cases h
        simp -implicitDefEqProofs only [go_sem, Nat.reduceEqDiff, Nat.reduceAdd, Nat.reduceLT, Nat.reduceLeDiff, Nat.reduceMul, Nat.reduceBEq, reduceIte, he0, le0, qe0, pe0, gi8, i8, gi17, i17, c18]
        rw [hR8]
        first | refine ⟨rfl, ?_⟩ | refine ⟨(), rfl, ?_⟩
        simp -implicitDefEqProofs only [go_sem, Nat.reduceEqDiff, Nat.reduceAdd, Nat.reduceLT, Nat.reduceLeDiff, Nat.reduceMul, Nat.reduceBEq, reduceIte, he0, le0, qe0, pe0, gi8, i8, gi17, i17, c18]
  · clear hL8 hI8
    intro e s hr8
    rw [hR8] at hr8
    clear hR8
    rcases z8 with ⟨v12, v13⟩
    try dsimp only at h hr8
    obtain ⟨rfl, gi31, i31⟩ := hr8
    simp -implicitDefEqProofs only [go_sem, Nat.reduceEqDiff, Nat.reduceAdd, Nat.reduceLT, Nat.reduceLeDiff, Nat.reduceMul, Nat.reduceBEq, reduceIte, he0, le0, qe0, pe0, gi31, i31]
    obtain ⟨z38, hL38, h⟩ := bs h
    obtain ⟨I38, hI38⟩ : ∃ I : (Int × Bool × (List TRat)) → St → Prop, I = fun a s => match a with | (v39, v40, v41) => s.G = fillKey (fillKey (cut d G) e0 t0 [.box [.p (.bool v40)]]) (d + 1) 16 [.arr (v41.map cTRat)] ∧ s.F 0 = .bp (e0, t0, 0) 0 ∧ s.F 3 = .p (.sl (a3.map cii64)) ∧ s.F 9 = .arr (d + 1, 16, 0) v41.length 2 ∧ s.F 42 = .p (.sl (a2.map cTTerm)) ∧ s.F 43 = .p (.int .i64 (a2.length : Int)) ∧ s.F 44 = .p (.int .i64 v39) ∧ True := ⟨_, rfl⟩
    obtain ⟨R38, hR38⟩ : ∃ R : (Bool × (List TRat)) → GE → St → Prop, R = fun x e s => match x with | (v43, v44) => e = .exit 2 ∧ (∃ j42, s.G = fillKey (fillKey (fillKey (cut d G) e0 t0 [.box [.p (.bool v43)]]) (d + 1) 12 j42) (d + 1) 16 [.arr (v44.map cTRat)] ∧ s.F 9 = .arr (d + 1, 16, 0) v44.length 2 ∧ True) := ⟨_, rfl⟩
    refine lp (ts := [12, 13]) rfl hL38 I38 R38 ?_ ?_ ?_
    · rw [hI38]
      simp -implicitDefEqProofs only [go_sem, Nat.reduceEqDiff, Nat.reduceAdd, Nat.reduceLT, Nat.reduceLeDiff, Nat.reduceMul, Nat.reduceBEq, reduceIte, he0, le0, qe0, pe0, gi31, i31]
    · clear h hL38
      rintro ⟨v39, v40, v41⟩ y s h i
      rw [hI38] at i
      obtain ⟨gi38, i38⟩ := i
      replace h : m_bound_engine_witness_L1 a2 a3 (v39, v40, v41) = some y := h
      unfold m_bound_engine_witness_L1 at h
      rcases ib h with ⟨c45, h⟩ | ⟨c45, h⟩
      · obtain ⟨v46, hv46, h⟩ := bs h
        replace hv46 := gis hv46
        rcases ib h with ⟨c47, h⟩ | ⟨c47, h⟩
        · cases h
          simp -implicitDefEqProofs only [go_sem, Nat.reduceEqDiff, Nat.reduceAdd, Nat.reduceLT, Nat.reduceLeDiff, Nat.reduceMul, Nat.reduceBEq, reduceIte, he0, le0, qe0, pe0, gi31, i31, gi38, i38, c45, hv46, c47]
          rw [hR38]
          first | refine ⟨rfl, [.box [.p (.sl (v46.f0.map cTRat)), .p (.int .i64 v46.f1.f0), .p (.int .i64 v46.f1.f1)]], ?_⟩ | refine ⟨(), rfl, [.box [.p (.sl (v46.f0.map cTRat)), .p (.int .i64 v46.f1.f0), .p (.int .i64 v46.f1.f1)]], ?_⟩
          simp -implicitDefEqProofs only [go_sem, Nat.reduceEqDiff, Nat.reduceAdd, Nat.reduceLT, Nat.reduceLeDiff, Nat.reduceMul, Nat.reduceBEq, reduceIte, he0, le0, qe0, pe0, gi31, i31, gi38, i38, c45, hv46, c47]
        · obtain ⟨r48, hr48, h⟩ := bs h
          simp -implicitDefEqProofs only [go_sem, Nat.reduceEqDiff, Nat.reduceAdd, Nat.reduceLT, Nat.reduceLeDiff, Nat.reduceMul, Nat.reduceBEq, reduceIte, he0, le0, qe0, pe0, gi31, i31, gi38, i38, c45, hv46, c47]
          refine call_look (m_term_Value_ev v46 v41 r48 hr48 (d + 1) empty) (by simp -implicitDefEqProofs only [go_sem, Nat.reduceEqDiff, Nat.reduceAdd, Nat.reduceLT, Nat.reduceLeDiff, Nat.reduceMul, Nat.reduceBEq, reduceIte, he0, le0, qe0, pe0, gi31, i31, gi38, i38, c45, hv46, c47]) (by simp -implicitDefEqProofs only [go_sem, Nat.reduceEqDiff, Nat.reduceAdd, Nat.reduceLT, Nat.reduceLeDiff, Nat.reduceMul, Nat.reduceBEq, reduceIte]) (by simp -implicitDefEqProofs only [go_sem, Nat.reduceEqDiff, Nat.reduceAdd, Nat.reduceLT, Nat.reduceLeDiff, Nat.reduceMul, Nat.reduceBEq, reduceIte]) ?_ rfl
          obtain ⟨r49, hr49, h⟩ := bs h
          simp -implicitDefEqProofs only [go_sem, Nat.reduceEqDiff, Nat.reduceAdd, Nat.reduceLT, Nat.reduceLeDiff, Nat.reduceMul, Nat.reduceBEq, reduceIte, he0, le0, qe0, pe0, gi31, i31, gi38, i38, c45, hv46, c47]
          refine call_open0 (t0 := 999) (r := .agg [.p (.int .i64 r49.1.f0), .p (.int .i64 r49.1.f1)]) (m_bound_engine_rat_ev (⟨v40⟩ : TBound_engine) r48.1 r48.2 r49 hr49 (d + 1) _ e0 t0 (Nat.le_succ_of_le he0) (by simp -implicitDefEqProofs only [go_sem, Nat.reduceEqDiff, Nat.reduceAdd, Nat.reduceLT, Nat.reduceLeDiff, Nat.reduceMul, Nat.reduceBEq, reduceIte, he0, le0, qe0, pe0, gi31, i31, gi38, i38, c45, hv46, c47]) ) (by simp -implicitDefEqProofs only [go_sem, Nat.reduceEqDiff, Nat.reduceAdd, Nat.reduceLT, Nat.reduceLeDiff, Nat.reduceMul, Nat.reduceBEq, reduceIte, he0, le0, qe0, pe0, gi31, i31, gi38, i38, c45, hv46, c47]) rfl (by simp -implicitDefEqProofs only [go_sem, Nat.reduceEqDiff, Nat.reduceAdd, Nat.reduceLT, Nat.reduceLeDiff, Nat.reduceMul, Nat.reduceBEq, reduceIte, he0, le0, qe0, pe0, gi31, i31, gi38, i38, c45, hv46, c47]) (by simp -implicitDefEqProofs only [go_sem, Nat.reduceEqDiff, Nat.reduceAdd, Nat.reduceLT, Nat.reduceLeDiff, Nat.reduceMul, Nat.reduceBEq, reduceIte, he0, le0, qe0, pe0, gi31, i31, gi38, i38, c45, hv46, c47]) (by simp -implicitDefEqProofs only [go_sem, Nat.reduceEqDiff, Nat.reduceAdd, Nat.reduceLT, Nat.reduceLeDiff, Nat.reduceMul, Nat.reduceBEq, reduceIte]) ?_
          obtain ⟨v50, hv50, h⟩ := bs h
          replace hv50 := gis hv50
          obtain ⟨_, c51, h⟩ := bs h
          replace c51 := rqs c51
          obtain ⟨_, c52, h⟩ := bs h
          replace c52 := rqs c52
          obtain ⟨v53, hv53, h⟩ := bs h
          replace hv53 := gis hv53
          cases h
          simp -implicitDefEqProofs only [go_sem, Nat.reduceEqDiff, Nat.reduceAdd, Nat.reduceLT, Nat.reduceLeDiff, Nat.reduceMul, Nat.reduceBEq, reduceIte, he0, le0, qe0, pe0, gi31, i31, gi38, i38, c45, hv46, c47, hv50, c51, c52, hv53]
          rw [hI38]
          simp -implicitDefEqProofs only [go_sem, Nat.reduceEqDiff, Nat.reduceAdd, Nat.reduceLT, Nat.reduceLeDiff, Nat.reduceMul, Nat.reduceBEq, reduceIte, he0, le0, qe0, pe0, gi31, i31, gi38, i38, c45, hv46, c47, hv50, c51, c52, hv53]
      · cases h
        simp -implicitDefEqProofs only [go_sem, Nat.reduceEqDiff, Nat.reduceAdd, Nat.reduceLT, Nat.reduceLeDiff, Nat.reduceMul, Nat.reduceBEq, reduceIte, he0, le0, qe0, pe0, gi31, i31, gi38, i38, c45]
        rw [hR38]
        first | refine ⟨rfl, [], ?_⟩ | refine ⟨(), rfl, [], ?_⟩
        simp -implicitDefEqProofs only [go_sem, Nat.reduceEqDiff, Nat.reduceAdd, Nat.reduceLT, Nat.reduceLeDiff, Nat.reduceMul, Nat.reduceBEq, reduceIte, he0, le0, qe0, pe0, gi31, i31, gi38, i38, c45]
    · clear hL38 hI38
      intro e s hr38
      rw [hR38] at hr38
      clear hR38
      rcases z38 with ⟨v43, v44⟩
      try dsimp only at h hr38
      obtain ⟨rfl, j42, gi54, i54⟩ := hr38
      cases h
      subst hQ
      simp -implicitDefEqProofs only [go_sem, Nat.reduceEqDiff, Nat.reduceAdd, Nat.reduceLT, Nat.reduceLeDiff, Nat.reduceMul, Nat.reduceBEq, reduceIte, he0, le0, qe0, pe0, gi31, i31, gi54, i54, Try.results41]
theorem m_bound_engine_solve_1_ev (a0 : TRow) (r0 : Bool) (h : m_bound_engine_solve_1 a0 = some r0) (d : Nat) (G : Heap) : Tel Try.prog TB d 40 [.agg ((cTRow a0).map .p)] G (.p (.bool r0)) (G) := by
  unfold m_bound_engine_solve_1 at h
  refine Tel.intro mix Try.func40 rfl (Nat.le_of_ble_eq_true rfl) {frzAt := fun t => t == 1} (by kernel_rfl) (by kernel_rfl) ?_
  generalize hQ : callPost _ _ _ _ _ = Q
  rcases ib h with ⟨c1, h⟩ | ⟨c1, h⟩
  · cases h
    subst hQ
    simp -implicitDefEqProofs only [go_sem, Nat.reduceEqDiff, Nat.reduceAdd, Nat.reduceLT, Nat.reduceLeDiff, Nat.reduceMul, Nat.reduceBEq, reduceIte, c1, Try.results40]
  · rcases ib h with ⟨c2, h⟩ | ⟨c2, h⟩
    · cases h
      subst hQ
      simp -implicitDefEqProofs only [go_sem, Nat.reduceEqDiff, Nat.reduceAdd, Nat.reduceLT, Nat.reduceLeDiff, Nat.reduceMul, Nat.reduceBEq, reduceIte, c1, c2, Try.results40]
    · cases h
      subst hQ
      simp -implicitDefEqProofs only [go_sem, Nat.reduceEqDiff, Nat.reduceAdd, Nat.reduceLT, Nat.reduceLeDiff, Nat.reduceMul, Nat.reduceBEq, reduceIte, c1, c2, Try.results40]
theorem m_bound_engine_solve_ev (a0 : TBound_engine) (a1 : List TRow) (r0 : (List TRat) × Int × TBound_engine) (h : m_bound_engine_solve a0 a1 = some r0) (d : Nat) (G : Heap) (e0 t0 : Nat) (he0 : e0 ≤ d) (hGt0 : G e0 t0 = [.box [.p (.bool a0.f0)]]) : Tel Try.prog TB d 25 [.bp (e0, t0, 0) 0, .p (.sl (a1.map cTRow))] G (.tup [.p (.sl (r0.1.map cTRat)), .p (.int .i64 r0.2.1)]) (fillKey (G) e0 t0 ([.box [.p (.bool r0.2.2.f0)]])) := by
  unfold m_bound_engine_solve at h
  refine Tel.intro mix Try.func25 rfl (Nat.le_of_ble_eq_true rfl) {openAt := fun t => t == 62 || t == 81 || t == 98, drwAt := fun t => t == 62, frzAt := fun t => t == 36 || t == 58 || t == 93, boxAt := fun t => if t = 54 then some 14 else if t = 56 then some 14 else if t = 1000064 then some 64 else none, clean := fun r => if r = 3 then [8] else if r = 13 then [14] else if r = 20 then [17, 1000012] else []} (by kernel_rfl) (by kernel_rfl) ?_
  have le0 : (e0 ≤ d + 1) = True := by simp; omega
  have qe0 : (e0 = d + 1) = False := by simp; omega
  have pe0 : (d + 1 = e0) = False := by simp; omega
  refine gwp_heap (H' := fillKey (cut d G) e0 t0 [.box [.p (.bool a0.f0)]]) ?_ ?_
  · rw [fill_self (B := cut d G) (a := e0) (b := t0) (by rw [cut_app, if_pos he0]; exact hGt0)]
  generalize hQ : callPost _ _ _ _ _ = Q
  simp -implicitDefEqProofs only [go_sem, Nat.reduceEqDiff, Nat.reduceAdd, Nat.reduceLT, Nat.reduceLeDiff, Nat.reduceMul, Nat.reduceBEq, reduceIte, he0, le0, qe0, pe0]
  obtain ⟨z7, hL7, h⟩ := bs h
  obtain ⟨I7, hI7⟩ : ∃ I : ((List TTerm) × Int) → St → Prop, I = fun a s => match a with | (v8, v10) => ∃ o9, s.G = fillKey (fillKey (cut d G) e0 t0 [.box [.p (.bool a0.f0)]]) (d + 1) 32 (growO o9 32 3 (v8.map cTTerm)) ∧ growOK o9 [32] ∧ s.F 0 = .bp (e0, t0, 0) 0 ∧ s.F 1 = .p (.sl (a1.map cTRow)) ∧ s.F 6 = growV o9 (d + 1) (v8.map cTTerm) ∧ s.F 19 = .p (.sl (a1.map cTRow)) ∧ s.F 20 = .p (.int .i64 (a1.length : Int)) ∧ s.F 21 = .p (.int .i64 v10) ∧ True := ⟨_, rfl⟩
  obtain ⟨R7, hR7⟩ : ∃ R : ((List TTerm)) → GE → St → Prop, R = fun v11 e s => e = .exit 0 ∧ (∃ o12, s.G = fillKey (fillKey (cut d G) e0 t0 [.box [.p (.bool a0.f0)]]) (d + 1) 32 (growO o12 32 3 (v11.map cTTerm)) ∧ growOK o12 [32] ∧ s.F 0 = .bp (e0, t0, 0) 0 ∧ s.F 1 = .p (.sl (a1.map cTRow)) ∧ s.F 6 = growV o12 (d + 1) (v11.map cTTerm) ∧ True) := ⟨_, rfl⟩
  refine lp (ts := [8]) rfl hL7 I7 R7 ?_ ?_ ?_
  · rw [hI7]
    refine ⟨none, ?_⟩
    simp -implicitDefEqProofs only [go_sem, Nat.reduceEqDiff, Nat.reduceAdd, Nat.reduceLT, Nat.reduceLeDiff, Nat.reduceMul, Nat.reduceBEq, reduceIte, he0, le0, qe0, pe0]
  · clear h hL7
    rintro ⟨v8, v10⟩ y s h i
    rw [hI7] at i
    obtain ⟨o9, gi7, ko9, i7⟩ := i
    replace h : m_bound_engine_solve_L0 a1 (v8, v10) = some y := h
    unfold m_bound_engine_solve_L0 at h
    rcases ib h with ⟨c13, h⟩ | ⟨c13, h⟩
    · obtain ⟨v14, hv14, h⟩ := bs h
      replace hv14 := gis hv14
      simp -implicitDefEqProofs only [go_sem, Nat.reduceEqDiff, Nat.reduceAdd, Nat.reduceLT, Nat.reduceLeDiff, Nat.reduceMul, Nat.reduceBEq, reduceIte, he0, le0, qe0, pe0, gi7, ko9, i7, c13, hv14]
      obtain ⟨v15, hz, h⟩ := bs h
      obtain ⟨R17, hR17⟩ : ∃ R : St → Prop, R = fun s => ∃ o16, s.G = fillKey (fillKey (fillKey (cut d G) e0 t0 [.box [.p (.bool a0.f0)]]) (d + 1) 8 [.box [.p (.int .i64 v14.f0), .p (.sl (v14.f1.f0.map cTRat)), .p (.int .i64 v14.f1.f1.f0), .p (.int .i64 v14.f1.f1.f1)]]) (d + 1) 32 (growO o16 32 3 (v15.map cTTerm)) ∧ growOK o16 [32] ∧ s.F 0 = .bp (e0, t0, 0) 0 ∧ s.F 1 = .p (.sl (a1.map cTRow)) ∧ s.F 6 = growV o16 (d + 1) (v15.map cTTerm) ∧ s.F 19 = .p (.sl (a1.map cTRow)) ∧ s.F 20 = .p (.int .i64 (a1.length : Int)) ∧ s.F 21 = .p (.int .i64 v10) ∧ True := ⟨_, rfl⟩
      refine cutG R17 ?_ ?_
      · replace h := hz
        rcases ib h with ⟨c18, h⟩ | ⟨c18, h⟩
        · obtain ⟨_, c19, h⟩ := bs h
          replace c19 := rqs c19
          simp -implicitDefEqProofs only [go_sem, Nat.reduceEqDiff, Nat.reduceAdd, Nat.reduceLT, Nat.reduceLeDiff, Nat.reduceMul, Nat.reduceBEq, reduceIte, he0, le0, qe0, pe0, gi7, ko9, i7, c13, hv14, c18, c19]
          refine append_G (o := o9) (ts := [32]) (es := (v8 : List TTerm).map cTTerm) (xs := ([v14.f1] : List TTerm).map cTTerm) (ho := growOK.sub ko9 (by decide)) (hG := by simp -implicitDefEqProofs only [go_sem, Nat.reduceEqDiff, Nat.reduceAdd, Nat.reduceLT, Nat.reduceLeDiff, Nat.reduceMul, Nat.reduceBEq, reduceIte, he0, le0, qe0, pe0, gi7, ko9, i7, c13, hv14, c18, c19]) (hj := by simp -implicitDefEqProofs only [go_sem, Nat.reduceEqDiff, Nat.reduceAdd, Nat.reduceLT, Nat.reduceLeDiff, Nat.reduceMul, Nat.reduceBEq, reduceIte]) (he := el94) (hx := by simp -implicitDefEqProofs only [go_sem, Nat.reduceEqDiff, Nat.reduceAdd, Nat.reduceLT, Nat.reduceLeDiff, Nat.reduceMul, Nat.reduceBEq, reduceIte, he0, le0, qe0, pe0, gi7, ko9, i7, c13, hv14, c18, c19]) (h1 := by simp -implicitDefEqProofs only [go_sem, Nat.reduceEqDiff, Nat.reduceAdd, Nat.reduceLT, Nat.reduceLeDiff, Nat.reduceMul, Nat.reduceBEq, reduceIte]) (h2 := by simp -implicitDefEqProofs only [go_sem, Nat.reduceEqDiff, Nat.reduceAdd, Nat.reduceLT, Nat.reduceLeDiff, Nat.reduceMul, Nat.reduceBEq, reduceIte]) (ha := rfl) (hra := rfl) (hb := by simpa using c19) (hbb := by decide) ?_
          intro o20 ko20
          cases h
          simp -implicitDefEqProofs only [go_sem, Nat.reduceEqDiff, Nat.reduceAdd, Nat.reduceLT, Nat.reduceLeDiff, Nat.reduceMul, Nat.reduceBEq, reduceIte, he0, le0, qe0, pe0, gi7, ko9, i7, c13, hv14, c18, c19, ko20]
          rw [hR17]
          refine ⟨o20, ?_⟩
          simp -implicitDefEqProofs only [go_sem, Nat.reduceEqDiff, Nat.reduceAdd, Nat.reduceLT, Nat.reduceLeDiff, Nat.reduceMul, Nat.reduceBEq, reduceIte, he0, le0, qe0, pe0, gi7, ko9, i7, c13, hv14, c18, c19, ko20]
        · cases h
          simp -implicitDefEqProofs only [go_sem, Nat.reduceEqDiff, Nat.reduceAdd, Nat.reduceLT, Nat.reduceLeDiff, Nat.reduceMul, Nat.reduceBEq, reduceIte, he0, le0, qe0, pe0, gi7, ko9, i7, c13, hv14, c18]
          rw [hR17]
          refine ⟨o9, ?_⟩
          simp -implicitDefEqProofs only [go_sem, Nat.reduceEqDiff, Nat.reduceAdd, Nat.reduceLT, Nat.reduceLeDiff, Nat.reduceMul, Nat.reduceBEq, reduceIte, he0, le0, qe0, pe0, gi7, ko9, i7, c13, hv14, c18]
      · replace h := h; clear hz
        rintro s i
        rw [hR17] at i
        obtain ⟨o16, gi21, ko16, i21⟩ := i
        clear hR17
        try dsimp only at h
        cases h
        simp -implicitDefEqProofs only [go_sem, Nat.reduceEqDiff, Nat.reduceAdd, Nat.reduceLT, Nat.reduceLeDiff, Nat.reduceMul, Nat.reduceBEq, reduceIte, he0, le0, qe0, pe0, gi7, ko9, i7, c13, hv14, gi21, ko16, i21]
        rw [hI7]
        refine ⟨o16, ?_⟩
        simp -implicitDefEqProofs only [go_sem, Nat.reduceEqDiff, Nat.reduceAdd, Nat.reduceLT, Nat.reduceLeDiff, Nat.reduceMul, Nat.reduceBEq, reduceIte, he0, le0, qe0, pe0, gi7, ko9, i7, c13, hv14, gi21, ko16, i21, poison_grow (d := d + 1) (ts := [8]) ko16 (by decide)]
    · cases h
      simp -implicitDefEqProofs only [go_sem, Nat.reduceEqDiff, Nat.reduceAdd, Nat.reduceLT, Nat.reduceLeDiff, Nat.reduceMul, Nat.reduceBEq, reduceIte, he0, le0, qe0, pe0, gi7, ko9, i7, c13]
      rw [hR7]
      first | refine ⟨rfl, o9, ?_⟩ | refine ⟨(), rfl, o9, ?_⟩
      simp -implicitDefEqProofs only [go_sem, Nat.reduceEqDiff, Nat.reduceAdd, Nat.reduceLT, Nat.reduceLeDiff, Nat.reduceMul, Nat.reduceBEq, reduceIte, he0, le0, qe0, pe0, gi7, ko9, i7, c13]
  · clear hL7 hI7
    intro e s hr7
    rw [hR7] at hr7
    clear hR7
    revert h hr7
    generalize z7 = v11
    intro h hr7
    try dsimp only at h hr7
    obtain ⟨rfl, o12, gi22, ko12, i22⟩ := hr7
    obtain ⟨r23, hr23, h⟩ := bs h
    simp -implicitDefEqProofs only [go_sem, Nat.reduceEqDiff, Nat.reduceAdd, Nat.reduceLT, Nat.reduceLeDiff, Nat.reduceMul, Nat.reduceBEq, reduceIte, he0, le0, qe0, pe0, gi22, ko12, i22]
    refine call_frz (r' := .tup [.p (.sl (r23.1.map cTTerm)), .p (.sl (r23.2.1.map cii64)), .p (.int .i64 r23.2.2)]) (m_gauss_Solve_ev v11 r23 hr23 (d + 1) empty) (by simp -implicitDefEqProofs only [go_sem, Nat.reduceEqDiff, Nat.reduceAdd, Nat.reduceLT, Nat.reduceLeDiff, Nat.reduceMul, Nat.reduceBEq, reduceIte, he0, le0, qe0, pe0, gi22, ko12, i22]) rfl (by simp -implicitDefEqProofs only [go_sem, Nat.reduceEqDiff, Nat.reduceAdd, Nat.reduceLT, Nat.reduceLeDiff, Nat.reduceMul, Nat.reduceBEq, reduceIte]) (by simp -implicitDefEqProofs only [go_sem, Nat.reduceEqDiff, Nat.reduceAdd, Nat.reduceLT, Nat.reduceLeDiff, Nat.reduceMul, Nat.reduceBEq, reduceIte]) ?_ rfl rfl
    rcases ib h with ⟨c24, h⟩ | ⟨c24, h⟩
    · cases h
      subst hQ
      simp -implicitDefEqProofs only [go_sem, Nat.reduceEqDiff, Nat.reduceAdd, Nat.reduceLT, Nat.reduceLeDiff, Nat.reduceMul, Nat.reduceBEq, reduceIte, he0, le0, qe0, pe0, gi22, ko12, i22, c24, Try.results25]
    · simp -implicitDefEqProofs only [go_sem, Nat.reduceEqDiff, Nat.reduceAdd, Nat.reduceLT, Nat.reduceLeDiff, Nat.reduceMul, Nat.reduceBEq, reduceIte, he0, le0, qe0, pe0, gi22, ko12, i22, c24]
      obtain ⟨z33, hL33, h⟩ := bs h
      obtain ⟨I33, hI33⟩ : ∃ I : ((List TRow) × Int × Bool) → St → Prop, I = fun a s => match a with | (v34, v36, v37) => ∃ o35, s.G = fillKey (fillKey (fillKey (cut d G) e0 t0 [.box [.p (.bool v37)]]) (d + 1) 32 (growO o12 32 3 (v11.map cTTerm))) (d + 1) 64 (growO o35 64 4 (v34.map cTRow)) ∧ growOK o35 [64] ∧ s.F 0 = .bp (e0, t0, 0) 0 ∧ s.F 9 = .p (.sl (r23.1.map cTTerm)) ∧ s.F 10 = .p (.sl (r23.2.1.map cii64)) ∧ s.F 12 = growV o35 (d + 1) (v34.map cTRow) ∧ s.F 43 = .p (.sl (a1.map cTRow)) ∧ s.F 44 = .p (.int .i64 (a1.length : Int)) ∧ s.F 45 = .p (.int .i64 v36) ∧ True := ⟨_, rfl⟩
      obtain ⟨R33, hR33⟩ : ∃ R : ((List TRow) × Bool) → GE → St → Prop, R = fun x e s => match x with | (v38, v40) => e = .exit 2 ∧ (∃ o39, s.G = fillKey (fillKey (fillKey (cut d G) e0 t0 [.box [.p (.bool v40)]]) (d + 1) 32 (growO o12 32 3 (v11.map cTTerm))) (d + 1) 64 (growO o39 64 4 (v38.map cTRow)) ∧ growOK o39 [64] ∧ s.F 0 = .bp (e0, t0, 0) 0 ∧ s.F 9 = .p (.sl (r23.1.map cTTerm)) ∧ s.F 10 = .p (.sl (r23.2.1.map cii64)) ∧ s.F 12 = growV o39 (d + 1) (v38.map cTRow) ∧ True) := ⟨_, rfl⟩
      refine lp (ts := [14]) rfl hL33 I33 R33 ?_ ?_ ?_
      · rw [hI33]
        refine ⟨none, ?_⟩
        simp -implicitDefEqProofs only [go_sem, Nat.reduceEqDiff, Nat.reduceAdd, Nat.reduceLT, Nat.reduceLeDiff, Nat.reduceMul, Nat.reduceBEq, reduceIte, he0, le0, qe0, pe0, gi22, ko12, i22, c24, poison_grow (d := d + 1) (ts := [14]) ko12 (by decide)]
      · clear h hL33
        rintro ⟨v34, v36, v37⟩ y s h i
        rw [hI33] at i
        obtain ⟨o35, gi33, ko35, i33⟩ := i
        replace h : m_bound_engine_solve_L1 a1 r23 (v34, v36, v37) = some y := h
        unfold m_bound_engine_solve_L1 at h
        rcases ib h with ⟨c41, h⟩ | ⟨c41, h⟩
        · obtain ⟨v42, hv42, h⟩ := bs h
          replace hv42 := gis hv42
          simp -implicitDefEqProofs only [go_sem, Nat.reduceEqDiff, Nat.reduceAdd, Nat.reduceLT, Nat.reduceLeDiff, Nat.reduceMul, Nat.reduceBEq, reduceIte, he0, le0, qe0, pe0, gi22, ko12, i22, c24, gi33, ko35, i33, c41, hv42]
          obtain ⟨⟨v43, v45⟩, hz, h⟩ := bs h
          obtain ⟨R46, hR46⟩ : ∃ R : St → Prop, R = fun s => ∃ o44, s.G = fillKey (fillKey (fillKey (fillKey (cut d G) e0 t0 [.box [.p (.bool v45)]]) (d + 1) 14 [.box [.p (.int .i64 v42.f0), .p (.sl (v42.f1.f0.map cTRat)), .p (.int .i64 v42.f1.f1.f0), .p (.int .i64 v42.f1.f1.f1)]]) (d + 1) 32 (growO o12 32 3 (v11.map cTTerm))) (d + 1) 64 (growO o44 64 4 (v43.map cTRow)) ∧ growOK o44 [64] ∧ s.F 0 = .bp (e0, t0, 0) 0 ∧ s.F 9 = .p (.sl (r23.1.map cTTerm)) ∧ s.F 10 = .p (.sl (r23.2.1.map cii64)) ∧ s.F 12 = growV o44 (d + 1) (v43.map cTRow) ∧ s.F 43 = .p (.sl (a1.map cTRow)) ∧ s.F 44 = .p (.int .i64 (a1.length : Int)) ∧ s.F 45 = .p (.int .i64 v36) ∧ True := ⟨_, rfl⟩
          refine cutG R46 ?_ ?_
          · replace h := hz
            rcases ib h with ⟨c47, h⟩ | ⟨c47, h⟩
            · obtain ⟨r48, hr48, h⟩ := bs h
              simp -implicitDefEqProofs only [go_sem, Nat.reduceEqDiff, Nat.reduceAdd, Nat.reduceLT, Nat.reduceLeDiff, Nat.reduceMul, Nat.reduceBEq, reduceIte, he0, le0, qe0, pe0, gi22, ko12, i22, c24, gi33, ko35, i33, c41, hv42, c47]
              refine call_frz (r' := .agg [.p (.sl (r48.f0.map cTRat)), .p (.int .i64 r48.f1.f0), .p (.int .i64 r48.f1.f1)]) (m_term_Own_ev v42.f1 r48 hr48 (d + 1) empty) (by simp -implicitDefEqProofs only [go_sem, Nat.reduceEqDiff, Nat.reduceAdd, Nat.reduceLT, Nat.reduceLeDiff, Nat.reduceMul, Nat.reduceBEq, reduceIte, he0, le0, qe0, pe0, gi22, ko12, i22, c24, gi33, ko35, i33, c41, hv42, c47]) rfl (by simp -implicitDefEqProofs only [go_sem, Nat.reduceEqDiff, Nat.reduceAdd, Nat.reduceLT, Nat.reduceLeDiff, Nat.reduceMul, Nat.reduceBEq, reduceIte]) (by simp -implicitDefEqProofs only [go_sem, Nat.reduceEqDiff, Nat.reduceAdd, Nat.reduceLT, Nat.reduceLeDiff, Nat.reduceMul, Nat.reduceBEq, reduceIte]) ?_ rfl rfl
              obtain ⟨r49, hr49, h⟩ := bs h
              simp -implicitDefEqProofs only [go_sem, Nat.reduceEqDiff, Nat.reduceAdd, Nat.reduceLT, Nat.reduceLeDiff, Nat.reduceMul, Nat.reduceBEq, reduceIte, he0, le0, qe0, pe0, gi22, ko12, i22, c24, gi33, ko35, i33, c41, hv42, c47]
              refine call_drwL (t0 := 999) (r := .agg [.p (.int .i64 r49.1.f0), .p (.sl (r49.1.f1.f0.map cTRat)), .p (.int .i64 r49.1.f1.f1.f0), .p (.int .i64 r49.1.f1.f1.f1)]) [(e0, t0, [.box [.p (.bool r49.2.f0)]])] (fun H => m_bound_engine_plain_ev (⟨v37⟩ : TBound_engine) (⟨v42.f0, r48⟩ : TRow) r23.1 r23.2.1 r49 hr49 (d + 1) _ e0 t0 (Nat.le_succ_of_le he0) (by simp -implicitDefEqProofs only [go_sem, Nat.reduceEqDiff, Nat.reduceAdd, Nat.reduceLT, Nat.reduceLeDiff, Nat.reduceMul, Nat.reduceBEq, reduceIte, he0, le0, qe0, pe0, gi22, ko12, i22, c24, gi33, ko35, i33, c41, hv42, c47]) ) (by simp -implicitDefEqProofs only [go_sem, Nat.reduceEqDiff, Nat.reduceAdd, Nat.reduceLT, Nat.reduceLeDiff, Nat.reduceMul, Nat.reduceBEq, reduceIte, he0, le0, qe0, pe0, gi22, ko12, i22, c24, gi33, ko35, i33, c41, hv42, c47]) rfl (by simp -implicitDefEqProofs only [go_sem, Nat.reduceEqDiff, Nat.reduceAdd, Nat.reduceLT, Nat.reduceLeDiff, Nat.reduceMul, Nat.reduceBEq, reduceIte, he0, le0, qe0, pe0, gi22, ko12, i22, c24, gi33, ko35, i33, c41, hv42, c47]) (by simp -implicitDefEqProofs only [go_sem, Nat.reduceEqDiff, Nat.reduceAdd, Nat.reduceLT, Nat.reduceLeDiff, Nat.reduceMul, Nat.reduceBEq, reduceIte, he0, le0, qe0, pe0, gi22, ko12, i22, c24, gi33, ko35, i33, c41, hv42, c47]) (by simp -implicitDefEqProofs only [go_sem, Nat.reduceEqDiff, Nat.reduceAdd, Nat.reduceLT, Nat.reduceLeDiff, Nat.reduceMul, Nat.reduceBEq, reduceIte]) (by simp -implicitDefEqProofs only [go_sem, Nat.reduceEqDiff, Nat.reduceAdd, Nat.reduceLT, Nat.reduceLeDiff, Nat.reduceMul, Nat.reduceBEq, reduceIte, he0, le0, qe0, pe0, gi22, ko12, i22, c24, gi33, ko35, i33, c41, hv42, c47]) (by simp -implicitDefEqProofs only [go_sem, Nat.reduceEqDiff, Nat.reduceAdd, Nat.reduceLT, Nat.reduceLeDiff, Nat.reduceMul, Nat.reduceBEq, reduceIte, he0, le0, qe0, pe0, gi22, ko12, i22, c24, gi33, ko35, i33, c41, hv42, c47]) (by simp -implicitDefEqProofs only [go_sem, Nat.reduceEqDiff, Nat.reduceAdd, Nat.reduceLT, Nat.reduceLeDiff, Nat.reduceMul, Nat.reduceBEq, reduceIte]) (by simp -implicitDefEqProofs only [go_sem, Nat.reduceEqDiff, Nat.reduceAdd, Nat.reduceLT, Nat.reduceLeDiff, Nat.reduceMul, Nat.reduceBEq, reduceIte]) ?_
              obtain ⟨_, c50, h⟩ := bs h
              replace c50 := rqs c50
              simp -implicitDefEqProofs only [go_sem, Nat.reduceEqDiff, Nat.reduceAdd, Nat.reduceLT, Nat.reduceLeDiff, Nat.reduceMul, Nat.reduceBEq, reduceIte, he0, le0, qe0, pe0, gi22, ko12, i22, c24, gi33, ko35, i33, c41, hv42, c47, c50, appG_grow (k := 64) ko35, appG_grow_p (k := 64) ko35]
              refine append_G (o := o35) (ts := [64]) (es := (v34 : List TRow).map cTRow) (xs := ([r49.1] : List TRow).map cTRow) (ho := growOK.sub ko35 (by decide)) (hG := by simp -implicitDefEqProofs only [go_sem, Nat.reduceEqDiff, Nat.reduceAdd, Nat.reduceLT, Nat.reduceLeDiff, Nat.reduceMul, Nat.reduceBEq, reduceIte, he0, le0, qe0, pe0, gi22, ko12, i22, c24, gi33, ko35, i33, c41, hv42, c47, c50]) (hj := by simp -implicitDefEqProofs only [go_sem, Nat.reduceEqDiff, Nat.reduceAdd, Nat.reduceLT, Nat.reduceLeDiff, Nat.reduceMul, Nat.reduceBEq, reduceIte]) (he := el22) (hx := by simp -implicitDefEqProofs only [go_sem, Nat.reduceEqDiff, Nat.reduceAdd, Nat.reduceLT, Nat.reduceLeDiff, Nat.reduceMul, Nat.reduceBEq, reduceIte, he0, le0, qe0, pe0, gi22, ko12, i22, c24, gi33, ko35, i33, c41, hv42, c47, c50]) (h1 := by simp -implicitDefEqProofs only [go_sem, Nat.reduceEqDiff, Nat.reduceAdd, Nat.reduceLT, Nat.reduceLeDiff, Nat.reduceMul, Nat.reduceBEq, reduceIte]) (h2 := by simp -implicitDefEqProofs only [go_sem, Nat.reduceEqDiff, Nat.reduceAdd, Nat.reduceLT, Nat.reduceLeDiff, Nat.reduceMul, Nat.reduceBEq, reduceIte]) (ha := rfl) (hra := rfl) (hb := by simpa using c50) (hbb := by decide) ?_
              intro o51 ko51
              cases h
              simp -implicitDefEqProofs only [go_sem, Nat.reduceEqDiff, Nat.reduceAdd, Nat.reduceLT, Nat.reduceLeDiff, Nat.reduceMul, Nat.reduceBEq, reduceIte, he0, le0, qe0, pe0, gi22, ko12, i22, c24, gi33, ko35, i33, c41, hv42, c47, c50, ko51]
              rw [hR46]
              refine ⟨o51, ?_⟩
              simp -implicitDefEqProofs only [go_sem, Nat.reduceEqDiff, Nat.reduceAdd, Nat.reduceLT, Nat.reduceLeDiff, Nat.reduceMul, Nat.reduceBEq, reduceIte, he0, le0, qe0, pe0, gi22, ko12, i22, c24, gi33, ko35, i33, c41, hv42, c47, c50, ko51]
            · cases h
              simp -implicitDefEqProofs only [go_sem, Nat.reduceEqDiff, Nat.reduceAdd, Nat.reduceLT, Nat.reduceLeDiff, Nat.reduceMul, Nat.reduceBEq, reduceIte, he0, le0, qe0, pe0, gi22, ko12, i22, c24, gi33, ko35, i33, c41, hv42, c47]
              rw [hR46]
              refine ⟨o35, ?_⟩
              simp -implicitDefEqProofs only [go_sem, Nat.reduceEqDiff, Nat.reduceAdd, Nat.reduceLT, Nat.reduceLeDiff, Nat.reduceMul, Nat.reduceBEq, reduceIte, he0, le0, qe0, pe0, gi22, ko12, i22, c24, gi33, ko35, i33, c41, hv42, c47]
          · replace h := h; clear hz
            rintro s i
            rw [hR46] at i
            obtain ⟨o44, gi52, ko44, i52⟩ := i
            clear hR46
            try dsimp only at h
            cases h
            simp -implicitDefEqProofs only [go_sem, Nat.reduceEqDiff, Nat.reduceAdd, Nat.reduceLT, Nat.reduceLeDiff, Nat.reduceMul, Nat.reduceBEq, reduceIte, he0, le0, qe0, pe0, gi22, ko12, i22, c24, gi33, ko35, i33, c41, hv42, gi52, ko44, i52]
            rw [hI33]
            refine ⟨o44, ?_⟩
            simp -implicitDefEqProofs only [go_sem, Nat.reduceEqDiff, Nat.reduceAdd, Nat.reduceLT, Nat.reduceLeDiff, Nat.reduceMul, Nat.reduceBEq, reduceIte, he0, le0, qe0, pe0, gi22, ko12, i22, c24, gi33, ko35, i33, c41, hv42, gi52, ko44, i52, poison_grow (d := d + 1) (ts := [14]) ko44 (by decide)]
        · cases h
          simp -implicitDefEqProofs only [go_sem, Nat.reduceEqDiff, Nat.reduceAdd, Nat.reduceLT, Nat.reduceLeDiff, Nat.reduceMul, Nat.reduceBEq, reduceIte, he0, le0, qe0, pe0, gi22, ko12, i22, c24, gi33, ko35, i33, c41]
          rw [hR33]
          first | refine ⟨rfl, o35, ?_⟩ | refine ⟨(), rfl, o35, ?_⟩
          simp -implicitDefEqProofs only [go_sem, Nat.reduceEqDiff, Nat.reduceAdd, Nat.reduceLT, Nat.reduceLeDiff, Nat.reduceMul, Nat.reduceBEq, reduceIte, he0, le0, qe0, pe0, gi22, ko12, i22, c24, gi33, ko35, i33, c41]
      · clear hL33 hI33
        intro e s hr33
        rw [hR33] at hr33
        clear hR33
        rcases z33 with ⟨v38, v40⟩
        try dsimp only at h hr33
        obtain ⟨rfl, o39, gi53, ko39, i53⟩ := hr33
        simp -implicitDefEqProofs only [go_sem, Nat.reduceEqDiff, Nat.reduceAdd, Nat.reduceLT, Nat.reduceLeDiff, Nat.reduceMul, Nat.reduceBEq, reduceIte, he0, le0, qe0, pe0, gi22, ko12, i22, c24, gi53, ko39, i53]
        obtain ⟨z64, hL64, h⟩ := bs h
        obtain ⟨I64, hI64⟩ : ∃ I : ((List TRow) × (List TBound_stage) × Int × Bool) → St → Prop, I = fun a s => match a with | (v65, v66, v68, v69) => ∃ o67, s.G = fillKey (fillKey (fillKey (fillKey (cut d G) e0 t0 [.box [.p (.bool v69)]]) (d + 1) 32 (growO o12 32 3 (v11.map cTTerm))) (d + 1) 64 (growO o39 64 4 (v38.map cTRow))) (d + 1) 87 (growO o67 87 2 (v66.map cTBound_stage)) ∧ growOK o67 [87] ∧ s.F 0 = .bp (e0, t0, 0) 0 ∧ s.F 9 = .p (.sl (r23.1.map cTTerm)) ∧ s.F 10 = .p (.sl (r23.2.1.map cii64)) ∧ s.F 12 = .p (.sl (v65.map cTRow)) ∧ s.F 15 = growV o67 (d + 1) (v66.map cTBound_stage) ∧ s.F 16 = .p (.int .i64 v68) ∧ True := ⟨_, rfl⟩
        obtain ⟨R64, hR64⟩ : ∃ R : ((List TRow) × (List TBound_stage) × Bool) → GE → St → Prop, R = fun x e s => match x with | (v70, v71, v73) => e = .exit 4 ∧ (∃ o72, s.G = fillKey (fillKey (fillKey (fillKey (cut d G) e0 t0 [.box [.p (.bool v73)]]) (d + 1) 32 (growO o12 32 3 (v11.map cTTerm))) (d + 1) 64 (growO o39 64 4 (v38.map cTRow))) (d + 1) 87 (growO o72 87 2 (v71.map cTBound_stage)) ∧ growOK o72 [87] ∧ s.F 0 = .bp (e0, t0, 0) 0 ∧ s.F 9 = .p (.sl (r23.1.map cTTerm)) ∧ s.F 10 = .p (.sl (r23.2.1.map cii64)) ∧ s.F 12 = .p (.sl (v70.map cTRow)) ∧ s.F 15 = growV o72 (d + 1) (v71.map cTBound_stage) ∧ True) := ⟨_, rfl⟩
        refine lp (ts := [17, 1000012]) rfl hL64 I64 R64 ?_ ?_ ?_
        · rw [hI64]
          refine ⟨none, ?_⟩
          simp -implicitDefEqProofs only [go_sem, Nat.reduceEqDiff, Nat.reduceAdd, Nat.reduceLT, Nat.reduceLeDiff, Nat.reduceMul, Nat.reduceBEq, reduceIte, he0, le0, qe0, pe0, gi22, ko12, i22, c24, gi53, ko39, i53, poison_grow (d := d + 1) (ts := [17, 1000012]) ko39 (by decide)]
        · clear h hL64
          rintro ⟨v65, v66, v68, v69⟩ y s h i
          rw [hI64] at i
          obtain ⟨o67, gi64, ko67, i64⟩ := i
          replace h : m_bound_engine_solve_L2 (v65, v66, v68, v69) = some y := h
          unfold m_bound_engine_solve_L2 at h
          simp -implicitDefEqProofs only [go_sem, Nat.reduceEqDiff, Nat.reduceAdd, Nat.reduceLT, Nat.reduceLeDiff, Nat.reduceMul, Nat.reduceBEq, reduceIte, he0, le0, qe0, pe0, gi22, ko12, i22, c24, gi53, ko39, i53, gi64, ko67, i64]
          obtain ⟨v74, hz, h⟩ := bs h
          obtain ⟨R75, hR75⟩ : ∃ R : St → Prop, R = fun s => s.G = fillKey (fillKey (fillKey (fillKey (cut d G) e0 t0 [.box [.p (.bool v69)]]) (d + 1) 32 (growO o12 32 3 (v11.map cTTerm))) (d + 1) 64 (growO o39 64 4 (v38.map cTRow))) (d + 1) 87 (growO o67 87 2 (v66.map cTBound_stage)) ∧ s.F 0 = .bp (e0, t0, 0) 0 ∧ s.F 9 = .p (.sl (r23.1.map cTTerm)) ∧ s.F 10 = .p (.sl (r23.2.1.map cii64)) ∧ s.F 12 = .p (.sl (v65.map cTRow)) ∧ s.F 15 = growV o67 (d + 1) (v66.map cTBound_stage) ∧ s.F 16 = .p (.int .i64 v68) ∧ s.F 74 = .p (.bool v74) ∧ True := ⟨_, rfl⟩
          refine cutR R75 ?_ ?_
          · replace h := hz
            rcases ib h with ⟨c76, h⟩ | ⟨c76, h⟩
            · cases h
              simp -implicitDefEqProofs only [go_sem, Nat.reduceEqDiff, Nat.reduceAdd, Nat.reduceLT, Nat.reduceLeDiff, Nat.reduceMul, Nat.reduceBEq, reduceIte, he0, le0, qe0, pe0, gi22, ko12, i22, c24, gi53, ko39, i53, gi64, ko67, i64, c76]
              rw [hR75]
              simp -implicitDefEqProofs only [go_sem, Nat.reduceEqDiff, Nat.reduceAdd, Nat.reduceLT, Nat.reduceLeDiff, Nat.reduceMul, Nat.reduceBEq, reduceIte, he0, le0, qe0, pe0, gi22, ko12, i22, c24, gi53, ko39, i53, gi64, ko67, i64, c76]
            · cases h
              simp -implicitDefEqProofs only [go_sem, Nat.reduceEqDiff, Nat.reduceAdd, Nat.reduceLT, Nat.reduceLeDiff, Nat.reduceMul, Nat.reduceBEq, reduceIte, he0, le0, qe0, pe0, gi22, ko12, i22, c24, gi53, ko39, i53, gi64, ko67, i64, c76]
              rw [hR75]
              simp -implicitDefEqProofs only [go_sem, Nat.reduceEqDiff, Nat.reduceAdd, Nat.reduceLT, Nat.reduceLeDiff, Nat.reduceMul, Nat.reduceBEq, reduceIte, he0, le0, qe0, pe0, gi22, ko12, i22, c24, gi53, ko39, i53, gi64, ko67, i64, c76]
          · replace h := h; clear hz
            rintro s i
            rw [hR75] at i
            obtain ⟨gi77, i77⟩ := i
            clear hR75
            try dsimp only at h
            rcases ib h with ⟨c78, h⟩ | ⟨c78, h⟩
            · obtain ⟨r79, hr79, h⟩ := bs h
              simp -implicitDefEqProofs only [go_sem, Nat.reduceEqDiff, Nat.reduceAdd, Nat.reduceLT, Nat.reduceLeDiff, Nat.reduceMul, Nat.reduceBEq, reduceIte, he0, le0, qe0, pe0, gi22, ko12, i22, c24, gi53, ko39, i53, gi64, ko67, i64, gi77, i77, c78]
              refine call_open0 (t0 := 999) (r := .tup [.agg [.p (.sl (r79.1.f0.map cTRow)), .p (.sl (r79.1.f1.map cTRow))], .p (.sl (r79.2.1.map cTRow))]) (m_bound_engine_drop_ev (⟨v69⟩ : TBound_engine) v65 v68 r79 hr79 (d + 1) _ e0 t0 (Nat.le_succ_of_le he0) (by simp -implicitDefEqProofs only [go_sem, Nat.reduceEqDiff, Nat.reduceAdd, Nat.reduceLT, Nat.reduceLeDiff, Nat.reduceMul, Nat.reduceBEq, reduceIte, he0, le0, qe0, pe0, gi22, ko12, i22, c24, gi53, ko39, i53, gi64, ko67, i64, gi77, i77, c78]) ) (by simp -implicitDefEqProofs only [go_sem, Nat.reduceEqDiff, Nat.reduceAdd, Nat.reduceLT, Nat.reduceLeDiff, Nat.reduceMul, Nat.reduceBEq, reduceIte, he0, le0, qe0, pe0, gi22, ko12, i22, c24, gi53, ko39, i53, gi64, ko67, i64, gi77, i77, c78]) rfl (by simp -implicitDefEqProofs only [go_sem, Nat.reduceEqDiff, Nat.reduceAdd, Nat.reduceLT, Nat.reduceLeDiff, Nat.reduceMul, Nat.reduceBEq, reduceIte, he0, le0, qe0, pe0, gi22, ko12, i22, c24, gi53, ko39, i53, gi64, ko67, i64, gi77, i77, c78]) (by simp -implicitDefEqProofs only [go_sem, Nat.reduceEqDiff, Nat.reduceAdd, Nat.reduceLT, Nat.reduceLeDiff, Nat.reduceMul, Nat.reduceBEq, reduceIte, he0, le0, qe0, pe0, gi22, ko12, i22, c24, gi53, ko39, i53, gi64, ko67, i64, gi77, i77, c78]) (by simp -implicitDefEqProofs only [go_sem, Nat.reduceEqDiff, Nat.reduceAdd, Nat.reduceLT, Nat.reduceLeDiff, Nat.reduceMul, Nat.reduceBEq, reduceIte]) ?_
              obtain ⟨_, c80, h⟩ := bs h
              replace c80 := rqs c80
              simp -implicitDefEqProofs only [go_sem, Nat.reduceEqDiff, Nat.reduceAdd, Nat.reduceLT, Nat.reduceLeDiff, Nat.reduceMul, Nat.reduceBEq, reduceIte, he0, le0, qe0, pe0, gi22, ko12, i22, c24, gi53, ko39, i53, gi64, ko67, i64, gi77, i77, c78, c80]
              refine append_G (o := o67) (ts := [87]) (es := (v66 : List TBound_stage).map cTBound_stage) (xs := ([r79.1] : List TBound_stage).map cTBound_stage) (ho := growOK.sub ko67 (by decide)) (hG := by simp -implicitDefEqProofs only [go_sem, Nat.reduceEqDiff, Nat.reduceAdd, Nat.reduceLT, Nat.reduceLeDiff, Nat.reduceMul, Nat.reduceBEq, reduceIte, he0, le0, qe0, pe0, gi22, ko12, i22, c24, gi53, ko39, i53, gi64, ko67, i64, gi77, i77, c78, c80]) (hj := by simp -implicitDefEqProofs only [go_sem, Nat.reduceEqDiff, Nat.reduceAdd, Nat.reduceLT, Nat.reduceLeDiff, Nat.reduceMul, Nat.reduceBEq, reduceIte]) (he := el99) (hx := by simp -implicitDefEqProofs only [go_sem, Nat.reduceEqDiff, Nat.reduceAdd, Nat.reduceLT, Nat.reduceLeDiff, Nat.reduceMul, Nat.reduceBEq, reduceIte, he0, le0, qe0, pe0, gi22, ko12, i22, c24, gi53, ko39, i53, gi64, ko67, i64, gi77, i77, c78, c80]) (h1 := by simp -implicitDefEqProofs only [go_sem, Nat.reduceEqDiff, Nat.reduceAdd, Nat.reduceLT, Nat.reduceLeDiff, Nat.reduceMul, Nat.reduceBEq, reduceIte]) (h2 := by simp -implicitDefEqProofs only [go_sem, Nat.reduceEqDiff, Nat.reduceAdd, Nat.reduceLT, Nat.reduceLeDiff, Nat.reduceMul, Nat.reduceBEq, reduceIte]) (ha := rfl) (hra := rfl) (hb := by simpa using c80) (hbb := by decide) ?_
              intro o81 ko81
              cases h
              simp -implicitDefEqProofs only [go_sem, Nat.reduceEqDiff, Nat.reduceAdd, Nat.reduceLT, Nat.reduceLeDiff, Nat.reduceMul, Nat.reduceBEq, reduceIte, he0, le0, qe0, pe0, gi22, ko12, i22, c24, gi53, ko39, i53, gi64, ko67, i64, gi77, i77, c78, c80, ko81]
              rw [hI64]
              refine ⟨o81, ?_⟩
              simp -implicitDefEqProofs only [go_sem, Nat.reduceEqDiff, Nat.reduceAdd, Nat.reduceLT, Nat.reduceLeDiff, Nat.reduceMul, Nat.reduceBEq, reduceIte, he0, le0, qe0, pe0, gi22, ko12, i22, c24, gi53, ko39, i53, gi64, ko67, i64, gi77, i77, c78, c80, ko81, poison_grow (d := d + 1) (ts := [17, 1000012]) ko81 (by decide), poison_grow (d := d + 1) (ts := [17, 1000012]) ko67 (by decide)]
            · cases h
              simp -implicitDefEqProofs only [go_sem, Nat.reduceEqDiff, Nat.reduceAdd, Nat.reduceLT, Nat.reduceLeDiff, Nat.reduceMul, Nat.reduceBEq, reduceIte, he0, le0, qe0, pe0, gi22, ko12, i22, c24, gi53, ko39, i53, gi64, ko67, i64, gi77, i77, c78]
              rw [hR64]
              first | refine ⟨rfl, o67, ?_⟩ | refine ⟨(), rfl, o67, ?_⟩
              simp -implicitDefEqProofs only [go_sem, Nat.reduceEqDiff, Nat.reduceAdd, Nat.reduceLT, Nat.reduceLeDiff, Nat.reduceMul, Nat.reduceBEq, reduceIte, he0, le0, qe0, pe0, gi22, ko12, i22, c24, gi53, ko39, i53, gi64, ko67, i64, gi77, i77, c78]
        · clear hL64 hI64
          intro e s hr64
          rw [hR64] at hr64
          clear hR64
          rcases z64 with ⟨v70, v71, v73⟩
          try dsimp only at h hr64
          obtain ⟨rfl, o72, gi82, ko72, i82⟩ := hr64
          rcases ib h with ⟨c83, h⟩ | ⟨c83, h⟩
          · cases h
            subst hQ
            simp -implicitDefEqProofs only [go_sem, Nat.reduceEqDiff, Nat.reduceAdd, Nat.reduceLT, Nat.reduceLeDiff, Nat.reduceMul, Nat.reduceBEq, reduceIte, he0, le0, qe0, pe0, gi22, ko12, i22, c24, gi53, ko39, i53, gi82, ko72, i82, c83, Try.results25]
          · obtain ⟨r84, hr84, h⟩ := bs h
            simp -implicitDefEqProofs only [go_sem, Nat.reduceEqDiff, Nat.reduceAdd, Nat.reduceLT, Nat.reduceLeDiff, Nat.reduceMul, Nat.reduceBEq, reduceIte, he0, le0, qe0, pe0, gi22, ko12, i22, c24, gi53, ko39, i53, gi82, ko72, i82, c83]
            refine call_frz (r' := .p (.bool r84)) (m_slices_ContainsFunc_api_Row_ev v70 (fun x0 => m_bound_engine_solve_1 x0) 40 [] (by simp -implicitDefEqProofs only [go_sem, Nat.reduceEqDiff, Nat.reduceAdd, Nat.reduceLT, Nat.reduceLeDiff, Nat.reduceMul, Nat.reduceBEq, reduceIte]) (fun x0 r h d => m_bound_engine_solve_1_ev x0 r h d empty) r84 hr84 (d + 1) empty) (by simp -implicitDefEqProofs only [go_sem, Nat.reduceEqDiff, Nat.reduceAdd, Nat.reduceLT, Nat.reduceLeDiff, Nat.reduceMul, Nat.reduceBEq, reduceIte, he0, le0, qe0, pe0, gi22, ko12, i22, c24, gi53, ko39, i53, gi82, ko72, i82, c83]) rfl (by simp -implicitDefEqProofs only [go_sem, Nat.reduceEqDiff, Nat.reduceAdd, Nat.reduceLT, Nat.reduceLeDiff, Nat.reduceMul, Nat.reduceBEq, reduceIte]) (by simp -implicitDefEqProofs only [go_sem, Nat.reduceEqDiff, Nat.reduceAdd, Nat.reduceLT, Nat.reduceLeDiff, Nat.reduceMul, Nat.reduceBEq, reduceIte]) ?_ rfl rfl
            rcases ib h with ⟨c85, h⟩ | ⟨c85, h⟩
            · cases h
              subst hQ
              simp -implicitDefEqProofs only [go_sem, Nat.reduceEqDiff, Nat.reduceAdd, Nat.reduceLT, Nat.reduceLeDiff, Nat.reduceMul, Nat.reduceBEq, reduceIte, he0, le0, qe0, pe0, gi22, ko12, i22, c24, gi53, ko39, i53, gi82, ko72, i82, c83, c85, Try.results25]
            · obtain ⟨r86, hr86, h⟩ := bs h
              simp -implicitDefEqProofs only [go_sem, Nat.reduceEqDiff, Nat.reduceAdd, Nat.reduceLT, Nat.reduceLeDiff, Nat.reduceMul, Nat.reduceBEq, reduceIte, he0, le0, qe0, pe0, gi22, ko12, i22, c24, gi53, ko39, i53, gi82, ko72, i82, c83, c85]
              refine call_open (r := .own (r86.1.map cTRat) 2) (r' := .tsl (r86.1.map cTRat) (d + 1, 98, 0)) (os := [.tok (r86.1.map cTRat).length 2]) (m_bound_engine_witness_ev (⟨v73⟩ : TBound_engine) v71 r23.1 r23.2.1 r86 hr86 (d + 1) _ e0 t0 (Nat.le_succ_of_le he0) (by simp -implicitDefEqProofs only [go_sem, Nat.reduceEqDiff, Nat.reduceAdd, Nat.reduceLT, Nat.reduceLeDiff, Nat.reduceMul, Nat.reduceBEq, reduceIte, he0, le0, qe0, pe0, gi22, ko12, i22, c24, gi53, ko39, i53, gi82, ko72, i82, c83, c85]) ) (by simp -implicitDefEqProofs only [go_sem, Nat.reduceEqDiff, Nat.reduceAdd, Nat.reduceLT, Nat.reduceLeDiff, Nat.reduceMul, Nat.reduceBEq, reduceIte, he0, le0, qe0, pe0, gi22, ko12, i22, c24, gi53, ko39, i53, gi82, ko72, i82, c83, c85]) rfl (by simp -implicitDefEqProofs only [go_sem, Nat.reduceEqDiff, Nat.reduceAdd, Nat.reduceLT, Nat.reduceLeDiff, Nat.reduceMul, Nat.reduceBEq, reduceIte, he0, le0, qe0, pe0, gi22, ko12, i22, c24, gi53, ko39, i53, gi82, ko72, i82, c83, c85]) (by simp -implicitDefEqProofs only [go_sem, Nat.reduceEqDiff, Nat.reduceAdd, Nat.reduceLT, Nat.reduceLeDiff, Nat.reduceMul, Nat.reduceBEq, reduceIte, he0, le0, qe0, pe0, gi22, ko12, i22, c24, gi53, ko39, i53, gi82, ko72, i82, c83, c85]) (by simp -implicitDefEqProofs only [go_sem, Nat.reduceEqDiff, Nat.reduceAdd, Nat.reduceLT, Nat.reduceLeDiff, Nat.reduceMul, Nat.reduceBEq, reduceIte]) ?_
              rcases ib h with ⟨c87, h⟩ | ⟨c87, h⟩
              · cases h
                subst hQ
                simp -implicitDefEqProofs only [go_sem, Nat.reduceEqDiff, Nat.reduceAdd, Nat.reduceLT, Nat.reduceLeDiff, Nat.reduceMul, Nat.reduceBEq, reduceIte, he0, le0, qe0, pe0, gi22, ko12, i22, c24, gi53, ko39, i53, gi82, ko72, i82, c83, c85, c87, Try.results25]
              · cases h
                subst hQ
                simp -implicitDefEqProofs only [go_sem, Nat.reduceEqDiff, Nat.reduceAdd, Nat.reduceLT, Nat.reduceLeDiff, Nat.reduceMul, Nat.reduceBEq, reduceIte, he0, le0, qe0, pe0, gi22, ko12, i22, c24, gi53, ko39, i53, gi82, ko72, i82, c83, c85, c87, Try.results25]
theorem m_bound_Solve_1_ev (a0 : TRow) (r0 : Bool) (h : m_bound_Solve_1 a0 = some r0) (d : Nat) (G : Heap) : Tel Try.prog TB d 23 [.agg ((cTRow a0).map .p)] G (.p (.bool r0)) (G) := by
  unfold m_bound_Solve_1 at h
  refine Tel.intro mix Try.func23 rfl (Nat.le_of_ble_eq_true rfl) {frzAt := fun t => t == 1 || t == 4} (by kernel_rfl) (by kernel_rfl) ?_
  generalize hQ : callPost _ _ _ _ _ = Q
  obtain ⟨r1, hr1, h⟩ := bs h
  simp -implicitDefEqProofs only [go_sem, Nat.reduceEqDiff, Nat.reduceAdd, Nat.reduceLT, Nat.reduceLeDiff, Nat.reduceMul, Nat.reduceBEq, reduceIte]
  refine call_frz (r' := .p (.bool r1)) (m_bound_right_ev a0 r1 hr1 (d + 1) empty) (by simp -implicitDefEqProofs only [go_sem, Nat.reduceEqDiff, Nat.reduceAdd, Nat.reduceLT, Nat.reduceLeDiff, Nat.reduceMul, Nat.reduceBEq, reduceIte]) rfl (by simp -implicitDefEqProofs only [go_sem, Nat.reduceEqDiff, Nat.reduceAdd, Nat.reduceLT, Nat.reduceLeDiff, Nat.reduceMul, Nat.reduceBEq, reduceIte]) (by simp -implicitDefEqProofs only [go_sem, Nat.reduceEqDiff, Nat.reduceAdd, Nat.reduceLT, Nat.reduceLeDiff, Nat.reduceMul, Nat.reduceBEq, reduceIte]) ?_ rfl rfl
  cases h
  subst hQ
  simp -implicitDefEqProofs only [go_sem, Nat.reduceEqDiff, Nat.reduceAdd, Nat.reduceLT, Nat.reduceLeDiff, Nat.reduceMul, Nat.reduceBEq, reduceIte, Try.results23]
theorem m_bound_Solve_ev (a0 : List TRow) (r0 : (List TRat) × Int) (h : m_bound_Solve a0 = some r0) (d : Nat) (G : Heap) : Tel Try.prog TB d 13 [.p (.sl (a0.map cTRow))] G (.tup [.p (.sl (r0.1.map cTRat)), .p (.int .i64 r0.2)]) (G) := by
  unfold m_bound_Solve at h
  refine Tel.intro mix Try.func13 rfl (Nat.le_of_ble_eq_true rfl) {openAt := fun t => t == 14, frzAt := fun t => t == 9} (by kernel_rfl) (by kernel_rfl) ?_
  generalize hQ : callPost _ _ _ _ _ = Q
  simp -implicitDefEqProofs only [go_sem, Nat.reduceEqDiff, Nat.reduceAdd, Nat.reduceLT, Nat.reduceLeDiff, Nat.reduceMul, Nat.reduceBEq, reduceIte]
  obtain ⟨v1, hz, h⟩ := bs h
  obtain ⟨R2, hR2⟩ : ∃ R : St → Prop, R = fun s => s.G = cut d G ∧ s.F 0 = .p (.sl (a0.map cTRow)) ∧ s.F 10 = .p (.bool v1) ∧ True := ⟨_, rfl⟩
  refine cutR R2 ?_ ?_
  · replace h := hz
    rcases ib h with ⟨c3, h⟩ | ⟨c3, h⟩
    · cases h
      simp -implicitDefEqProofs only [go_sem, Nat.reduceEqDiff, Nat.reduceAdd, Nat.reduceLT, Nat.reduceLeDiff, Nat.reduceMul, Nat.reduceBEq, reduceIte, c3]
      rw [hR2]
      simp -implicitDefEqProofs only [go_sem, Nat.reduceEqDiff, Nat.reduceAdd, Nat.reduceLT, Nat.reduceLeDiff, Nat.reduceMul, Nat.reduceBEq, reduceIte, c3]
    · obtain ⟨r4, hr4, h⟩ := bs h
      simp -implicitDefEqProofs only [go_sem, Nat.reduceEqDiff, Nat.reduceAdd, Nat.reduceLT, Nat.reduceLeDiff, Nat.reduceMul, Nat.reduceBEq, reduceIte, c3]
      refine call_frz (r' := .p (.bool r4)) (m_slices_ContainsFunc_api_Row_ev a0 (fun x0 => m_bound_Solve_1 x0) 23 [] (by simp -implicitDefEqProofs only [go_sem, Nat.reduceEqDiff, Nat.reduceAdd, Nat.reduceLT, Nat.reduceLeDiff, Nat.reduceMul, Nat.reduceBEq, reduceIte]) (fun x0 r h d => m_bound_Solve_1_ev x0 r h d empty) r4 hr4 (d + 1) empty) (by simp -implicitDefEqProofs only [go_sem, Nat.reduceEqDiff, Nat.reduceAdd, Nat.reduceLT, Nat.reduceLeDiff, Nat.reduceMul, Nat.reduceBEq, reduceIte, c3]) rfl (by simp -implicitDefEqProofs only [go_sem, Nat.reduceEqDiff, Nat.reduceAdd, Nat.reduceLT, Nat.reduceLeDiff, Nat.reduceMul, Nat.reduceBEq, reduceIte]) (by simp -implicitDefEqProofs only [go_sem, Nat.reduceEqDiff, Nat.reduceAdd, Nat.reduceLT, Nat.reduceLeDiff, Nat.reduceMul, Nat.reduceBEq, reduceIte]) ?_ rfl rfl
      cases h
      simp -implicitDefEqProofs only [go_sem, Nat.reduceEqDiff, Nat.reduceAdd, Nat.reduceLT, Nat.reduceLeDiff, Nat.reduceMul, Nat.reduceBEq, reduceIte, c3]
      rw [hR2]
      simp -implicitDefEqProofs only [go_sem, Nat.reduceEqDiff, Nat.reduceAdd, Nat.reduceLT, Nat.reduceLeDiff, Nat.reduceMul, Nat.reduceBEq, reduceIte, c3]
  · replace h := h; clear hz
    rintro s i
    rw [hR2] at i
    obtain ⟨gi5, i5⟩ := i
    clear hR2
    try dsimp only at h
    rcases ib h with ⟨c6, h⟩ | ⟨c6, h⟩
    · cases h
      subst hQ
      simp -implicitDefEqProofs only [go_sem, Nat.reduceEqDiff, Nat.reduceAdd, Nat.reduceLT, Nat.reduceLeDiff, Nat.reduceMul, Nat.reduceBEq, reduceIte, gi5, i5, c6, Try.results13]
    · obtain ⟨r7, hr7, h⟩ := bs h
      simp -implicitDefEqProofs only [go_sem, Nat.reduceEqDiff, Nat.reduceAdd, Nat.reduceLT, Nat.reduceLeDiff, Nat.reduceMul, Nat.reduceBEq, reduceIte, gi5, i5, c6]
      refine call_open0 (t0 := 999) (r := .tup [.p (.sl (r7.1.map cTRat)), .p (.int .i64 r7.2.1)]) (m_bound_engine_solve_ev (⟨false⟩ : TBound_engine) a0 r7 hr7 (d + 1) _ (d + 1) 12 (Nat.le_refl _) (by simp -implicitDefEqProofs only [go_sem, Nat.reduceEqDiff, Nat.reduceAdd, Nat.reduceLT, Nat.reduceLeDiff, Nat.reduceMul, Nat.reduceBEq, reduceIte, gi5, i5, c6]) ) (by simp -implicitDefEqProofs only [go_sem, Nat.reduceEqDiff, Nat.reduceAdd, Nat.reduceLT, Nat.reduceLeDiff, Nat.reduceMul, Nat.reduceBEq, reduceIte, gi5, i5, c6]) rfl (by simp -implicitDefEqProofs only [go_sem, Nat.reduceEqDiff, Nat.reduceAdd, Nat.reduceLT, Nat.reduceLeDiff, Nat.reduceMul, Nat.reduceBEq, reduceIte, gi5, i5, c6]) (by simp -implicitDefEqProofs only [go_sem, Nat.reduceEqDiff, Nat.reduceAdd, Nat.reduceLT, Nat.reduceLeDiff, Nat.reduceMul, Nat.reduceBEq, reduceIte, gi5, i5, c6]) (by simp -implicitDefEqProofs only [go_sem, Nat.reduceEqDiff, Nat.reduceAdd, Nat.reduceLT, Nat.reduceLeDiff, Nat.reduceMul, Nat.reduceBEq, reduceIte]) ?_
      cases h
      subst hQ
      simp -implicitDefEqProofs only [go_sem, Nat.reduceEqDiff, Nat.reduceAdd, Nat.reduceLT, Nat.reduceLeDiff, Nat.reduceMul, Nat.reduceBEq, reduceIte, gi5, i5, c6, Try.results13]
theorem m_bound_Holds_ev (a0 : List TRow) (a1 : List TRat) (r0 : Bool) (h : m_bound_Holds a0 a1 = some r0) (d : Nat) (G : Heap) : Tel Try.prog TB d 21 [.p (.sl (a0.map cTRow)), .p (.sl (a1.map cTRat))] G (.p (.bool r0)) (G) := by
  unfold m_bound_Holds at h
  refine Tel.intro mix Try.func21 rfl (Nat.le_of_ble_eq_true rfl) {frzAt := fun t => t == 19 || t == 23, clean := fun r => if r = 2 then [6, 7] else []} (by kernel_rfl) (by kernel_rfl) ?_
  generalize hQ : callPost _ _ _ _ _ = Q
  simp -implicitDefEqProofs only [go_sem, Nat.reduceEqDiff, Nat.reduceAdd, Nat.reduceLT, Nat.reduceLeDiff, Nat.reduceMul, Nat.reduceBEq, reduceIte]
  obtain ⟨z3, hL3, h⟩ := bs h
  obtain ⟨I3, hI3⟩ : ∃ I : Int → St → Prop, I = fun v4 s => s.G = cut d G ∧ s.F 1 = .p (.sl (a1.map cTRat)) ∧ s.F 9 = .p (.sl (a0.map cTRow)) ∧ s.F 10 = .p (.int .i64 (a0.length : Int)) ∧ s.F 11 = .p (.int .i64 v4) ∧ True := ⟨_, rfl⟩
  obtain ⟨R3, hR3⟩ : ∃ R : ((Unit) ⊕ (Bool)) → GE → St → Prop, R = fun x e s => match x with | .inl _ => e = .exit 0 ∧ s.G = cut d G ∧ True | .inr r => e = .ret ∧ (r = r0 → Q .ret s) := ⟨_, rfl⟩
  refine lp (ts := [6, 7]) rfl hL3 I3 R3 ?_ ?_ ?_
  · rw [hI3]
    simp -implicitDefEqProofs only [go_sem, Nat.reduceEqDiff, Nat.reduceAdd, Nat.reduceLT, Nat.reduceLeDiff, Nat.reduceMul, Nat.reduceBEq, reduceIte]
  · clear h hL3
    rintro v4 y s h i
    rw [hI3] at i
    obtain ⟨gi3, i3⟩ := i
    replace h : m_bound_Holds_L0 a0 a1 (v4) = some y := h
    unfold m_bound_Holds_L0 at h
    rcases ib h with ⟨c5, h⟩ | ⟨c5, h⟩
    · obtain ⟨v6, hv6, h⟩ := bs h
      replace hv6 := gis hv6
      obtain ⟨r7, hr7, h⟩ := bs h
      simp -implicitDefEqProofs only [go_sem, Nat.reduceEqDiff, Nat.reduceAdd, Nat.reduceLT, Nat.reduceLeDiff, Nat.reduceMul, Nat.reduceBEq, reduceIte, gi3, i3, c5, hv6]
      refine call_frz (r' := .tup [.agg [.p (.int .i64 r7.1.f0), .p (.int .i64 r7.1.f1)], .p (.int .i64 r7.2)]) (m_term_Value_ev v6.f1 a1 r7 hr7 (d + 1) empty) (by simp -implicitDefEqProofs only [go_sem, Nat.reduceEqDiff, Nat.reduceAdd, Nat.reduceLT, Nat.reduceLeDiff, Nat.reduceMul, Nat.reduceBEq, reduceIte, gi3, i3, c5, hv6]) rfl (by simp -implicitDefEqProofs only [go_sem, Nat.reduceEqDiff, Nat.reduceAdd, Nat.reduceLT, Nat.reduceLeDiff, Nat.reduceMul, Nat.reduceBEq, reduceIte]) (by simp -implicitDefEqProofs only [go_sem, Nat.reduceEqDiff, Nat.reduceAdd, Nat.reduceLT, Nat.reduceLeDiff, Nat.reduceMul, Nat.reduceBEq, reduceIte]) ?_ rfl rfl
      obtain ⟨r8, hr8, h⟩ := bs h
      simp -implicitDefEqProofs only [go_sem, Nat.reduceEqDiff, Nat.reduceAdd, Nat.reduceLT, Nat.reduceLeDiff, Nat.reduceMul, Nat.reduceBEq, reduceIte, gi3, i3, c5, hv6]
      refine call_frz (r' := .p (.bool r8)) (m_bound_right_ev v6 r8 hr8 (d + 1) empty) (by simp -implicitDefEqProofs only [go_sem, Nat.reduceEqDiff, Nat.reduceAdd, Nat.reduceLT, Nat.reduceLeDiff, Nat.reduceMul, Nat.reduceBEq, reduceIte, gi3, i3, c5, hv6]) rfl (by simp -implicitDefEqProofs only [go_sem, Nat.reduceEqDiff, Nat.reduceAdd, Nat.reduceLT, Nat.reduceLeDiff, Nat.reduceMul, Nat.reduceBEq, reduceIte]) (by simp -implicitDefEqProofs only [go_sem, Nat.reduceEqDiff, Nat.reduceAdd, Nat.reduceLT, Nat.reduceLeDiff, Nat.reduceMul, Nat.reduceBEq, reduceIte]) ?_ rfl rfl
      simp -implicitDefEqProofs only [go_sem, Nat.reduceEqDiff, Nat.reduceAdd, Nat.reduceLT, Nat.reduceLeDiff, Nat.reduceMul, Nat.reduceBEq, reduceIte, gi3, i3, c5, hv6]
      obtain ⟨v9, hz, h⟩ := bs h
      obtain ⟨R10, hR10⟩ : ∃ R : St → Prop, R = fun s => s.G = fillKey (fillKey (cut d G) (d + 1) 6 [.box [.p (.int .i64 v6.f0), .p (.sl (v6.f1.f0.map cTRat)), .p (.int .i64 v6.f1.f1.f0), .p (.int .i64 v6.f1.f1.f1)]]) (d + 1) 7 [.box [.p (.int .i64 r7.1.f0), .p (.int .i64 r7.1.f1)]] ∧ s.F 1 = .p (.sl (a1.map cTRat)) ∧ s.F 9 = .p (.sl (a0.map cTRow)) ∧ s.F 10 = .p (.int .i64 (a0.length : Int)) ∧ s.F 11 = .p (.int .i64 v4) ∧ s.F 53 = .p (.bool v9) ∧ True := ⟨_, rfl⟩
      refine cutR R10 ?_ ?_
      · replace h := hz
        rcases ib h with ⟨c11, h⟩ | ⟨c11, h⟩
        · cases h
          simp -implicitDefEqProofs only [go_sem, Nat.reduceEqDiff, Nat.reduceAdd, Nat.reduceLT, Nat.reduceLeDiff, Nat.reduceMul, Nat.reduceBEq, reduceIte, gi3, i3, c5, hv6, c11]
          rw [hR10]
          simp -implicitDefEqProofs only [go_sem, Nat.reduceEqDiff, Nat.reduceAdd, Nat.reduceLT, Nat.reduceLeDiff, Nat.reduceMul, Nat.reduceBEq, reduceIte, gi3, i3, c5, hv6, c11]
        · rcases ib h with ⟨c12, h⟩ | ⟨c12, h⟩
          · cases h
            simp -implicitDefEqProofs only [go_sem, Nat.reduceEqDiff, Nat.reduceAdd, Nat.reduceLT, Nat.reduceLeDiff, Nat.reduceMul, Nat.reduceBEq, reduceIte, gi3, i3, c5, hv6, c11, c12]
            rw [hR10]
            simp -implicitDefEqProofs only [go_sem, Nat.reduceEqDiff, Nat.reduceAdd, Nat.reduceLT, Nat.reduceLeDiff, Nat.reduceMul, Nat.reduceBEq, reduceIte, gi3, i3, c5, hv6, c11, c12]
          · rcases ib h with ⟨c13, h⟩ | ⟨c13, h⟩
            · cases h
              simp -implicitDefEqProofs only [go_sem, Nat.reduceEqDiff, Nat.reduceAdd, Nat.reduceLT, Nat.reduceLeDiff, Nat.reduceMul, Nat.reduceBEq, reduceIte, gi3, i3, c5, hv6, c11, c12, c13]
              rw [hR10]
              simp -implicitDefEqProofs only [go_sem, Nat.reduceEqDiff, Nat.reduceAdd, Nat.reduceLT, Nat.reduceLeDiff, Nat.reduceMul, Nat.reduceBEq, reduceIte, gi3, i3, c5, hv6, c11, c12, c13]
            · rcases ib h with ⟨c14, h⟩ | ⟨c14, h⟩
              · rcases ib h with ⟨c15, h⟩ | ⟨c15, h⟩
                · cases h
                  simp -implicitDefEqProofs only [go_sem, Nat.reduceEqDiff, Nat.reduceAdd, Nat.reduceLT, Nat.reduceLeDiff, Nat.reduceMul, Nat.reduceBEq, reduceIte, gi3, i3, c5, hv6, c11, c12, c13, c14, c15]
                  rw [hR10]
                  simp -implicitDefEqProofs only [go_sem, Nat.reduceEqDiff, Nat.reduceAdd, Nat.reduceLT, Nat.reduceLeDiff, Nat.reduceMul, Nat.reduceBEq, reduceIte, gi3, i3, c5, hv6, c11, c12, c13, c14, c15]
                · rcases ib h with ⟨c16, h⟩ | ⟨c16, h⟩
                  · cases h
                    simp -implicitDefEqProofs only [go_sem, Nat.reduceEqDiff, Nat.reduceAdd, Nat.reduceLT, Nat.reduceLeDiff, Nat.reduceMul, Nat.reduceBEq, reduceIte, gi3, i3, c5, hv6, c11, c12, c13, c14, c15, c16]
                    rw [hR10]
                    simp -implicitDefEqProofs only [go_sem, Nat.reduceEqDiff, Nat.reduceAdd, Nat.reduceLT, Nat.reduceLeDiff, Nat.reduceMul, Nat.reduceBEq, reduceIte, gi3, i3, c5, hv6, c11, c12, c13, c14, c15, c16]
                  · cases h
                    simp -implicitDefEqProofs only [go_sem, Nat.reduceEqDiff, Nat.reduceAdd, Nat.reduceLT, Nat.reduceLeDiff, Nat.reduceMul, Nat.reduceBEq, reduceIte, gi3, i3, c5, hv6, c11, c12, c13, c14, c15, c16]
                    rw [hR10]
                    simp -implicitDefEqProofs only [go_sem, Nat.reduceEqDiff, Nat.reduceAdd, Nat.reduceLT, Nat.reduceLeDiff, Nat.reduceMul, Nat.reduceBEq, reduceIte, gi3, i3, c5, hv6, c11, c12, c13, c14, c15, c16]
              · rcases ib h with ⟨c17, h⟩ | ⟨c17, h⟩
                · cases h
                  simp -implicitDefEqProofs only [go_sem, Nat.reduceEqDiff, Nat.reduceAdd, Nat.reduceLT, Nat.reduceLeDiff, Nat.reduceMul, Nat.reduceBEq, reduceIte, gi3, i3, c5, hv6, c11, c12, c13, c14, c17]
                  rw [hR10]
                  simp -implicitDefEqProofs only [go_sem, Nat.reduceEqDiff, Nat.reduceAdd, Nat.reduceLT, Nat.reduceLeDiff, Nat.reduceMul, Nat.reduceBEq, reduceIte, gi3, i3, c5, hv6, c11, c12, c13, c14, c17]
                · cases h
                  simp -implicitDefEqProofs only [go_sem, Nat.reduceEqDiff, Nat.reduceAdd, Nat.reduceLT, Nat.reduceLeDiff, Nat.reduceMul, Nat.reduceBEq, reduceIte, gi3, i3, c5, hv6, c11, c12, c13, c14, c17]
                  rw [hR10]
                  simp -implicitDefEqProofs only [go_sem, Nat.reduceEqDiff, Nat.reduceAdd, Nat.reduceLT, Nat.reduceLeDiff, Nat.reduceMul, Nat.reduceBEq, reduceIte, gi3, i3, c5, hv6, c11, c12, c13, c14, c17]
      · replace h := h; clear hz
        rintro s i
        rw [hR10] at i
        obtain ⟨gi18, i18⟩ := i
        clear hR10
        try dsimp only at h
        rcases ib h with ⟨c19, h⟩ | ⟨c19, h⟩
        · cases h
          simp -implicitDefEqProofs only [go_sem, Nat.reduceEqDiff, Nat.reduceAdd, Nat.reduceLT, Nat.reduceLeDiff, Nat.reduceMul, Nat.reduceBEq, reduceIte, gi3, i3, c5, hv6, gi18, i18, c19]
          rw [hR3]
          refine ⟨rfl, ?_⟩
          intro hr
          subst hr
          subst hQ
          simp -implicitDefEqProofs only [go_sem, Nat.reduceEqDiff, Nat.reduceAdd, Nat.reduceLT, Nat.reduceLeDiff, Nat.reduceMul, Nat.reduceBEq, reduceIte, gi3, i3, c5, hv6, gi18, i18, c19, Try.results21]
        · cases h
          simp -implicitDefEqProofs only [go_sem, Nat.reduceEqDiff, Nat.reduceAdd, Nat.reduceLT, Nat.reduceLeDiff, Nat.reduceMul, Nat.reduceBEq, reduceIte, gi3, i3, c5, hv6, gi18, i18, c19]
          rw [hI3]
          simp -implicitDefEqProofs only [go_sem, Nat.reduceEqDiff, Nat.reduceAdd, Nat.reduceLT, Nat.reduceLeDiff, Nat.reduceMul, Nat.reduceBEq, reduceIte, gi3, i3, c5, hv6, gi18, i18, c19]
    · cases h
      simp -implicitDefEqProofs only [go_sem, Nat.reduceEqDiff, Nat.reduceAdd, Nat.reduceLT, Nat.reduceLeDiff, Nat.reduceMul, Nat.reduceBEq, reduceIte, gi3, i3, c5]
      rw [hR3]
      first | refine ⟨rfl, ?_⟩ | refine ⟨(), rfl, ?_⟩
      simp -implicitDefEqProofs only [go_sem, Nat.reduceEqDiff, Nat.reduceAdd, Nat.reduceLT, Nat.reduceLeDiff, Nat.reduceMul, Nat.reduceBEq, reduceIte, gi3, i3, c5]
  · clear hL3 hI3
    intro e s hr3
    rw [hR3] at hr3
    clear hR3
    rcases z3 with _ | r
    · try dsimp only at h hr3
      obtain ⟨rfl, gi20, i20⟩ := hr3
      cases h
      subst hQ
      simp -implicitDefEqProofs only [go_sem, Nat.reduceEqDiff, Nat.reduceAdd, Nat.reduceLT, Nat.reduceLeDiff, Nat.reduceMul, Nat.reduceBEq, reduceIte, gi20, i20, Try.results21]
    · try dsimp only at h hr3
      obtain ⟨rfl, hr3⟩ := hr3
      cases h
      try simp -implicitDefEqProofs only [go_sem, Nat.reduceEqDiff, Nat.reduceAdd, Nat.reduceLT, Nat.reduceLeDiff, Nat.reduceMul, Nat.reduceBEq, reduceIte]
      exact hr3 rfl
theorem m_law04_awake_ev  (r0 : Bool) (h : m_law04_awake  = some r0) (d : Nat) (G : Heap) : Tel Try.prog TB d 10 [] G (.p (.bool r0)) (G) := by
  unfold m_law04_awake at h
  refine Tel.intro mix Try.func10 rfl (Nat.le_of_ble_eq_true rfl) {frzAt := fun t => t == 31 || t == 38 || t == 64} (by kernel_rfl) (by kernel_rfl) ?_
  generalize hQ : callPost _ _ _ _ _ = Q
  obtain ⟨r1, hr1, h⟩ := bs h
  simp -implicitDefEqProofs only [go_sem, Nat.reduceEqDiff, Nat.reduceAdd, Nat.reduceLT, Nat.reduceLeDiff, Nat.reduceMul, Nat.reduceBEq, reduceIte]
  refine call_frz (r' := .tup [.p (.sl (r1.1.map cTRat)), .p (.int .i64 r1.2)]) (m_bound_Solve_ev ([(⟨2, (⟨[(⟨1, 1⟩ : TRat)], (⟨0, 1⟩ : TRat)⟩ : TTerm)⟩ : TRow), (⟨1, (⟨[(⟨-1, 1⟩ : TRat)], (⟨1, 1⟩ : TRat)⟩ : TTerm)⟩ : TRow)]) r1 hr1 (d + 1) empty) (by simp -implicitDefEqProofs only [go_sem, Nat.reduceEqDiff, Nat.reduceAdd, Nat.reduceLT, Nat.reduceLeDiff, Nat.reduceMul, Nat.reduceBEq, reduceIte]) rfl (by simp -implicitDefEqProofs only [go_sem, Nat.reduceEqDiff, Nat.reduceAdd, Nat.reduceLT, Nat.reduceLeDiff, Nat.reduceMul, Nat.reduceBEq, reduceIte]) (by simp -implicitDefEqProofs only [go_sem, Nat.reduceEqDiff, Nat.reduceAdd, Nat.reduceLT, Nat.reduceLeDiff, Nat.reduceMul, Nat.reduceBEq, reduceIte]) ?_ rfl rfl
  obtain ⟨r2, hr2, h⟩ := bs h
  simp -implicitDefEqProofs only [go_sem, Nat.reduceEqDiff, Nat.reduceAdd, Nat.reduceLT, Nat.reduceLeDiff, Nat.reduceMul, Nat.reduceBEq, reduceIte]
  refine call_frz (r' := .tup [.p (.sl (r2.1.map cTRat)), .p (.int .i64 r2.2)]) (m_bound_Solve_ev ([(⟨2, (⟨[(⟨1, 1⟩ : TRat)], (⟨0, 1⟩ : TRat)⟩ : TTerm)⟩ : TRow), (⟨1, (⟨[(⟨-1, 1⟩ : TRat)], (⟨0, 1⟩ : TRat)⟩ : TTerm)⟩ : TRow)]) r2 hr2 (d + 1) empty) (by simp -implicitDefEqProofs only [go_sem, Nat.reduceEqDiff, Nat.reduceAdd, Nat.reduceLT, Nat.reduceLeDiff, Nat.reduceMul, Nat.reduceBEq, reduceIte]) rfl (by simp -implicitDefEqProofs only [go_sem, Nat.reduceEqDiff, Nat.reduceAdd, Nat.reduceLT, Nat.reduceLeDiff, Nat.reduceMul, Nat.reduceBEq, reduceIte]) (by simp -implicitDefEqProofs only [go_sem, Nat.reduceEqDiff, Nat.reduceAdd, Nat.reduceLT, Nat.reduceLeDiff, Nat.reduceMul, Nat.reduceBEq, reduceIte]) ?_ rfl rfl
  rcases ib h with ⟨c3, h⟩ | ⟨c3, h⟩
  · rcases ib h with ⟨c4, h⟩ | ⟨c4, h⟩
    · obtain ⟨v5, hv5, h⟩ := bs h
      replace hv5 := gis hv5
      simp -implicitDefEqProofs only [go_sem, Nat.reduceEqDiff, Nat.reduceAdd, Nat.reduceLT, Nat.reduceLeDiff, Nat.reduceMul, Nat.reduceBEq, reduceIte, c3, c4, hv5]
      refine eqS_TRat v5 (⟨1, 2⟩ : TRat) ?_
      rcases ib h with ⟨c6, h⟩ | ⟨c6, h⟩
      · rcases ib h with ⟨c7, h⟩ | ⟨c7, h⟩
        · obtain ⟨r8, hr8, h⟩ := bs h
          simp -implicitDefEqProofs only [go_sem, Nat.reduceEqDiff, Nat.reduceAdd, Nat.reduceLT, Nat.reduceLeDiff, Nat.reduceMul, Nat.reduceBEq, reduceIte, c3, c4, hv5, c6, c7]
          refine call_frz (r' := .p (.bool r8)) (m_bound_Holds_ev ([(⟨2, (⟨[(⟨1, 1⟩ : TRat)], (⟨0, 1⟩ : TRat)⟩ : TTerm)⟩ : TRow), (⟨1, (⟨[(⟨-1, 1⟩ : TRat)], (⟨1, 1⟩ : TRat)⟩ : TTerm)⟩ : TRow)]) r1.1 r8 hr8 (d + 1) empty) (by simp -implicitDefEqProofs only [go_sem, Nat.reduceEqDiff, Nat.reduceAdd, Nat.reduceLT, Nat.reduceLeDiff, Nat.reduceMul, Nat.reduceBEq, reduceIte, c3, c4, hv5, c6, c7]) rfl (by simp -implicitDefEqProofs only [go_sem, Nat.reduceEqDiff, Nat.reduceAdd, Nat.reduceLT, Nat.reduceLeDiff, Nat.reduceMul, Nat.reduceBEq, reduceIte]) (by simp -implicitDefEqProofs only [go_sem, Nat.reduceEqDiff, Nat.reduceAdd, Nat.reduceLT, Nat.reduceLeDiff, Nat.reduceMul, Nat.reduceBEq, reduceIte]) ?_ rfl rfl
          cases h
          subst hQ
          simp -implicitDefEqProofs only [go_sem, Nat.reduceEqDiff, Nat.reduceAdd, Nat.reduceLT, Nat.reduceLeDiff, Nat.reduceMul, Nat.reduceBEq, reduceIte, c3, c4, hv5, c6, c7, Try.results10]
        · cases h
          subst hQ
          simp -implicitDefEqProofs only [go_sem, Nat.reduceEqDiff, Nat.reduceAdd, Nat.reduceLT, Nat.reduceLeDiff, Nat.reduceMul, Nat.reduceBEq, reduceIte, c3, c4, hv5, c6, c7, Try.results10]
      · cases h
        subst hQ
        simp -implicitDefEqProofs only [go_sem, Nat.reduceEqDiff, Nat.reduceAdd, Nat.reduceLT, Nat.reduceLeDiff, Nat.reduceMul, Nat.reduceBEq, reduceIte, c3, c4, hv5, c6, Try.results10]
    · cases h
      subst hQ
      simp -implicitDefEqProofs only [go_sem, Nat.reduceEqDiff, Nat.reduceAdd, Nat.reduceLT, Nat.reduceLeDiff, Nat.reduceMul, Nat.reduceBEq, reduceIte, c3, c4, Try.results10]
  · cases h
    subst hQ
    simp -implicitDefEqProofs only [go_sem, Nat.reduceEqDiff, Nat.reduceAdd, Nat.reduceLT, Nat.reduceLeDiff, Nat.reduceMul, Nat.reduceBEq, reduceIte, c3, Try.results10]
theorem m_law04_BoundSpan_ev (a0 : Int) (a1 : Int) (a2 : TS37) (r0 : Bool) (h : m_law04_BoundSpan a0 a1 a2 = some r0) (d : Nat) (G : Heap) : Tel Try.prog TB d 4 [.p (.int .i16 a0), .p (.int .i16 a1), .agg ((cTS37 a2).map .p)] G (.p (.bool r0)) (G) := by
  unfold m_law04_BoundSpan at h
  refine Tel.intro mix Try.func4 rfl (Nat.le_of_ble_eq_true rfl) {frzAt := fun t => t == 16 || t == 51 || t == 82} (by kernel_rfl) (by kernel_rfl) ?_
  generalize hQ : callPost _ _ _ _ _ = Q
  try simp -implicitDefEqProofs only [go_sem, Nat.reduceEqDiff, Nat.reduceAdd, Nat.reduceLT, Nat.reduceLeDiff, Nat.reduceMul, Nat.reduceBEq, reduceIte]
  obtain ⟨v1, hv1, h⟩ := bs h
  simp only [boxB2 hv1]
  have c2 := len2 hv1
  obtain ⟨r3, hr3, h⟩ := bs h
  try simp -implicitDefEqProofs only [go_sem, Nat.reduceEqDiff, Nat.reduceAdd, Nat.reduceLT, Nat.reduceLeDiff, Nat.reduceMul, Nat.reduceBEq, reduceIte, c2]
  refine call_frz (r' := .p (.bool r3)) (args := []) (caps := []) (m_law04_awake_ev  r3 hr3 (d + 1) empty) (wkRs_refl []) rfl (by simp -implicitDefEqProofs only [go_sem, Nat.reduceEqDiff, Nat.reduceAdd, Nat.reduceLT, Nat.reduceLeDiff, Nat.reduceMul, Nat.reduceBEq, reduceIte]) (by simp -implicitDefEqProofs only [go_sem, Nat.reduceEqDiff, Nat.reduceAdd, Nat.reduceLT, Nat.reduceLeDiff, Nat.reduceMul, Nat.reduceBEq, reduceIte]) ?_ rfl rfl
  rcases ib h with ⟨c4, h⟩ | ⟨c4, h⟩
  · cases h
    subst hQ
    simp -implicitDefEqProofs only [go_sem, Nat.reduceEqDiff, Nat.reduceAdd, Nat.reduceLT, Nat.reduceLeDiff, Nat.reduceMul, Nat.reduceBEq, reduceIte, c2, c4, Try.results4]
  · try simp -implicitDefEqProofs only [go_sem, Nat.reduceEqDiff, Nat.reduceAdd, Nat.reduceLT, Nat.reduceLeDiff, Nat.reduceMul, Nat.reduceBEq, reduceIte, c2, c4]
    obtain ⟨v5, hv5, h⟩ := bs h
    simp only [boxI2 hv5]
    have c6 := len2 hv5
    try simp -implicitDefEqProofs only [go_sem, Nat.reduceEqDiff, Nat.reduceAdd, Nat.reduceLT, Nat.reduceLeDiff, Nat.reduceMul, Nat.reduceBEq, reduceIte, c2, c4, c6]
    obtain ⟨z11, hL11, h⟩ := bs h
    obtain ⟨I11, hI11⟩ : ∃ I : (Int × (List Int)) → St → Prop, I = fun a s => match a with | (v12, v13) => s.G = fillKey (fillKey (cut d G) (d + 1) 5 [.box (v1.map gB)]) (d + 1) 7 [.box (v13.map (gI .i64))] ∧ s.F 0 = .p (.int .i16 a0) ∧ s.F 1 = .p (.int .i16 a1) ∧ s.F 5 = .bp (d + 1, 5, 0) 0 ∧ s.F 7 = .bp (d + 1, 7, 0) 0 ∧ s.F 8 = .p (.int .i64 v12) ∧ True := ⟨_, rfl⟩
    obtain ⟨R11, hR11⟩ : ∃ R : ((List Int)) → GE → St → Prop, R = fun v14 e s => e = .exit 0 ∧ s.G = fillKey (fillKey (cut d G) (d + 1) 5 [.box (v1.map gB)]) (d + 1) 7 [.box (v14.map (gI .i64))] ∧ s.F 0 = .p (.int .i16 a0) ∧ s.F 1 = .p (.int .i16 a1) ∧ s.F 5 = .bp (d + 1, 5, 0) 0 ∧ s.F 7 = .bp (d + 1, 7, 0) 0 ∧ True := ⟨_, rfl⟩
    refine lp (ts := []) rfl hL11 I11 R11 ?_ ?_ ?_
    · rw [hI11]
      simp -implicitDefEqProofs only [go_sem, Nat.reduceEqDiff, Nat.reduceAdd, Nat.reduceLT, Nat.reduceLeDiff, Nat.reduceMul, Nat.reduceBEq, reduceIte, c2, c4, c6]
    · clear h hL11
      rintro ⟨v12, v13⟩ y s h i
      rw [hI11] at i
      obtain ⟨gi11, i11⟩ := i
      replace h : m_law04_BoundSpan_L0 v1 (v12, v13) = some y := h
      unfold m_law04_BoundSpan_L0 at h
      rcases ib h with ⟨c15, h⟩ | ⟨c15, h⟩
      · obtain ⟨_, c16, h⟩ := bs h
        replace c16 := rqs c16
        obtain ⟨_, c17, h⟩ := bs h
        replace c17 := rqs c17
        obtain ⟨v18, hv18, h⟩ := bs h
        replace hv18 := gis hv18
        try simp -implicitDefEqProofs only [go_sem, Nat.reduceEqDiff, Nat.reduceAdd, Nat.reduceLT, Nat.reduceLeDiff, Nat.reduceMul, Nat.reduceBEq, reduceIte, c2, c4, c6, gi11, i11, c15, c16, c17, hv18]
        obtain ⟨v19, hz, h⟩ := bs h
        obtain ⟨R20, hR20⟩ : ∃ R : St → Prop, R = fun s => s.G = fillKey (fillKey (cut d G) (d + 1) 5 [.box (v1.map gB)]) (d + 1) 7 [.box (v19.map (gI .i64))] ∧ s.F 0 = .p (.int .i16 a0) ∧ s.F 1 = .p (.int .i16 a1) ∧ s.F 5 = .bp (d + 1, 5, 0) 0 ∧ s.F 7 = .bp (d + 1, 7, 0) 0 ∧ s.F 8 = .p (.int .i64 v12) ∧ True := ⟨_, rfl⟩
        refine cutG R20 ?_ ?_
        · replace h := hz
          rcases ib h with ⟨c21, h⟩ | ⟨c21, h⟩
          · obtain ⟨_, c22, h⟩ := bs h
            replace c22 := rqs c22
            have c23 := lt_toNat c16 c22
            cases h
            try simp -implicitDefEqProofs only [go_sem, Nat.reduceEqDiff, Nat.reduceAdd, Nat.reduceLT, Nat.reduceLeDiff, Nat.reduceMul, Nat.reduceBEq, reduceIte, c2, c4, c6, gi11, i11, c15, c16, c17, hv18, c21, c22, c23]
            rw [hR20]
            simp -implicitDefEqProofs only [go_sem, Nat.reduceEqDiff, Nat.reduceAdd, Nat.reduceLT, Nat.reduceLeDiff, Nat.reduceMul, Nat.reduceBEq, reduceIte, c2, c4, c6, gi11, i11, c15, c16, c17, hv18, c21, c22, c23]
          · cases h
            try simp -implicitDefEqProofs only [go_sem, Nat.reduceEqDiff, Nat.reduceAdd, Nat.reduceLT, Nat.reduceLeDiff, Nat.reduceMul, Nat.reduceBEq, reduceIte, c2, c4, c6, gi11, i11, c15, c16, c17, hv18, c21]
            rw [hR20]
            simp -implicitDefEqProofs only [go_sem, Nat.reduceEqDiff, Nat.reduceAdd, Nat.reduceLT, Nat.reduceLeDiff, Nat.reduceMul, Nat.reduceBEq, reduceIte, c2, c4, c6, gi11, i11, c15, c16, c17, hv18, c21]
        · replace h := h; clear hz
          rintro s i
          rw [hR20] at i
          obtain ⟨gi24, i24⟩ := i
          clear hR20
          try dsimp only at h
          cases h
          try simp -implicitDefEqProofs only [go_sem, Nat.reduceEqDiff, Nat.reduceAdd, Nat.reduceLT, Nat.reduceLeDiff, Nat.reduceMul, Nat.reduceBEq, reduceIte, c2, c4, c6, gi11, i11, c15, c16, c17, hv18, gi24, i24]
          rw [hI11]
          simp -implicitDefEqProofs only [go_sem, Nat.reduceEqDiff, Nat.reduceAdd, Nat.reduceLT, Nat.reduceLeDiff, Nat.reduceMul, Nat.reduceBEq, reduceIte, c2, c4, c6, gi11, i11, c15, c16, c17, hv18, gi24, i24]
      · cases h
        try simp -implicitDefEqProofs only [go_sem, Nat.reduceEqDiff, Nat.reduceAdd, Nat.reduceLT, Nat.reduceLeDiff, Nat.reduceMul, Nat.reduceBEq, reduceIte, c2, c4, c6, gi11, i11, c15]
        rw [hR11]
        first | refine ⟨rfl, ?_⟩ | refine ⟨(), rfl, ?_⟩
        simp -implicitDefEqProofs only [go_sem, Nat.reduceEqDiff, Nat.reduceAdd, Nat.reduceLT, Nat.reduceLeDiff, Nat.reduceMul, Nat.reduceBEq, reduceIte, c2, c4, c6, gi11, i11, c15]
    · clear hL11 hI11
      intro e s hr11
      rw [hR11] at hr11
      clear hR11
      revert h hr11
      generalize z11 = v14
      intro h hr11
      try dsimp only at h hr11
      obtain ⟨rfl, gi25, i25⟩ := hr11
      obtain ⟨_, c26, h⟩ := bs h
      replace c26 := rqs c26
      obtain ⟨_, c27, h⟩ := bs h
      replace c27 := rqs c27
      obtain ⟨v28, hv28, h⟩ := bs h
      replace hv28 := gis hv28
      obtain ⟨_, c29, h⟩ := bs h
      replace c29 := rqs c29
      obtain ⟨_, c30, h⟩ := bs h
      replace c30 := rqs c30
      obtain ⟨v31, hv31, h⟩ := bs h
      replace hv31 := gis hv31
      obtain ⟨r32, hr32, h⟩ := bs h
      try simp -implicitDefEqProofs only [go_sem, Nat.reduceEqDiff, Nat.reduceAdd, Nat.reduceLT, Nat.reduceLeDiff, Nat.reduceMul, Nat.reduceBEq, reduceIte, c2, c4, c6, gi25, i25, c26, c27, hv28, c29, c30, hv31]
      refine call_frz (r' := .tup [.p (.sl (r32.1.map cTRat)), .p (.int .i64 r32.2)]) (m_bound_Solve_ev ([(⟨v28, (⟨[(⟨1, 1⟩ : TRat)], (⟨IntKind.wrap .i64 (0 - (IntKind.wrap .i64 a0)), 1⟩ : TRat)⟩ : TTerm)⟩ : TRow), (⟨v31, (⟨[(⟨-1, 1⟩ : TRat)], (⟨IntKind.wrap .i64 a1, 1⟩ : TRat)⟩ : TTerm)⟩ : TRow)]) r32 hr32 (d + 1) empty) (by simp -implicitDefEqProofs only [go_sem, Nat.reduceEqDiff, Nat.reduceAdd, Nat.reduceLT, Nat.reduceLeDiff, Nat.reduceMul, Nat.reduceBEq, reduceIte, c2, c4, c6, gi25, i25, c26, c27, hv28, c29, c30, hv31]) rfl (by simp -implicitDefEqProofs only [go_sem, Nat.reduceEqDiff, Nat.reduceAdd, Nat.reduceLT, Nat.reduceLeDiff, Nat.reduceMul, Nat.reduceBEq, reduceIte]) (by simp -implicitDefEqProofs only [go_sem, Nat.reduceEqDiff, Nat.reduceAdd, Nat.reduceLT, Nat.reduceLeDiff, Nat.reduceMul, Nat.reduceBEq, reduceIte]) ?_ rfl rfl
      simp -implicitDefEqProofs only [go_sem, Nat.reduceEqDiff, Nat.reduceAdd, Nat.reduceLT, Nat.reduceLeDiff, Nat.reduceMul, Nat.reduceBEq, reduceIte, c2, c4, c6, gi25, i25, c26, c27, hv28, c29, c30, hv31]
      obtain ⟨v33, hz, h⟩ := bs h
      obtain ⟨R34, hR34⟩ : ∃ R : St → Prop, R = fun s => s.G = fillKey (fillKey (fillKey (fillKey (cut d G) (d + 1) 5 [.box (v1.map gB)]) (d + 1) 7 [.box (v14.map (gI .i64))]) (d + 1) 9 [.box [.p (.int .i64 1), .p (.int .i64 1)]]) (d + 1) 10 [.box [.p (.int .i64 (-1)), .p (.int .i64 1)]] ∧ s.F 0 = .p (.int .i16 a0) ∧ s.F 1 = .p (.int .i16 a1) ∧ s.F 11 = .p (.sl (r32.1.map cTRat)) ∧ s.F 12 = .p (.int .i64 r32.2) ∧ s.F 13 = .p (.bool v33) ∧ True := ⟨_, rfl⟩
      refine cutR R34 ?_ ?_
      · replace h := hz
        rcases ib h with ⟨c35, h⟩ | ⟨c35, h⟩
        · cases h
          simp -implicitDefEqProofs only [go_sem, Nat.reduceEqDiff, Nat.reduceAdd, Nat.reduceLT, Nat.reduceLeDiff, Nat.reduceMul, Nat.reduceBEq, reduceIte, c2, c4, c6, gi25, i25, c26, c27, hv28, c29, c30, hv31, c35]
          rw [hR34]
          simp -implicitDefEqProofs only [go_sem, Nat.reduceEqDiff, Nat.reduceAdd, Nat.reduceLT, Nat.reduceLeDiff, Nat.reduceMul, Nat.reduceBEq, reduceIte, c2, c4, c6, gi25, i25, c26, c27, hv28, c29, c30, hv31, c35]
        · rcases ib h with ⟨c36, h⟩ | ⟨c36, h⟩
          · obtain ⟨v37, hv37, h⟩ := bs h
            replace hv37 := gis hv37
            rcases ib h with ⟨c38, h⟩ | ⟨c38, h⟩
            · obtain ⟨v39, hv39, h⟩ := bs h
              replace hv39 := gis hv39
              cases h
              simp -implicitDefEqProofs only [go_sem, Nat.reduceEqDiff, Nat.reduceAdd, Nat.reduceLT, Nat.reduceLeDiff, Nat.reduceMul, Nat.reduceBEq, reduceIte, c2, c4, c6, gi25, i25, c26, c27, hv28, c29, c30, hv31, c35, c36, hv37, c38, hv39]
              rw [hR34]
              simp -implicitDefEqProofs only [go_sem, Nat.reduceEqDiff, Nat.reduceAdd, Nat.reduceLT, Nat.reduceLeDiff, Nat.reduceMul, Nat.reduceBEq, reduceIte, c2, c4, c6, gi25, i25, c26, c27, hv28, c29, c30, hv31, c35, c36, hv37, c38, hv39]
            · cases h
              simp -implicitDefEqProofs only [go_sem, Nat.reduceEqDiff, Nat.reduceAdd, Nat.reduceLT, Nat.reduceLeDiff, Nat.reduceMul, Nat.reduceBEq, reduceIte, c2, c4, c6, gi25, i25, c26, c27, hv28, c29, c30, hv31, c35, c36, hv37, c38]
              rw [hR34]
              simp -implicitDefEqProofs only [go_sem, Nat.reduceEqDiff, Nat.reduceAdd, Nat.reduceLT, Nat.reduceLeDiff, Nat.reduceMul, Nat.reduceBEq, reduceIte, c2, c4, c6, gi25, i25, c26, c27, hv28, c29, c30, hv31, c35, c36, hv37, c38]
          · cases h
            simp -implicitDefEqProofs only [go_sem, Nat.reduceEqDiff, Nat.reduceAdd, Nat.reduceLT, Nat.reduceLeDiff, Nat.reduceMul, Nat.reduceBEq, reduceIte, c2, c4, c6, gi25, i25, c26, c27, hv28, c29, c30, hv31, c35, c36]
            rw [hR34]
            simp -implicitDefEqProofs only [go_sem, Nat.reduceEqDiff, Nat.reduceAdd, Nat.reduceLT, Nat.reduceLeDiff, Nat.reduceMul, Nat.reduceBEq, reduceIte, c2, c4, c6, gi25, i25, c26, c27, hv28, c29, c30, hv31, c35, c36]
      · replace h := h; clear hz
        rintro s i
        rw [hR34] at i
        obtain ⟨gi40, i40⟩ := i
        clear hR34
        try dsimp only at h
        rcases ib h with ⟨c41, h⟩ | ⟨c41, h⟩
        · cases h
          subst hQ
          simp -implicitDefEqProofs only [go_sem, Nat.reduceEqDiff, Nat.reduceAdd, Nat.reduceLT, Nat.reduceLeDiff, Nat.reduceMul, Nat.reduceBEq, reduceIte, c2, c4, c6, gi25, i25, c26, c27, hv28, c29, c30, hv31, gi40, i40, c41, Try.results4]
        · obtain ⟨r42, hr42, h⟩ := bs h
          simp -implicitDefEqProofs only [go_sem, Nat.reduceEqDiff, Nat.reduceAdd, Nat.reduceLT, Nat.reduceLeDiff, Nat.reduceMul, Nat.reduceBEq, reduceIte, c2, c4, c6, gi25, i25, c26, c27, hv28, c29, c30, hv31, gi40, i40, c41]
          refine call_frz (r' := .tup [.agg [.p (.int .i64 r42.1.f0), .p (.int .i64 r42.1.f1)], .p (.int .i64 r42.2)]) (m_ref01_New_ev (IntKind.wrap .i64 ((IntKind.wrap .i64 a0) + (IntKind.wrap .i64 a1))) 2 r42 hr42 (d + 1) empty) (by simp -implicitDefEqProofs only [go_sem, Nat.reduceEqDiff, Nat.reduceAdd, Nat.reduceLT, Nat.reduceLeDiff, Nat.reduceMul, Nat.reduceBEq, reduceIte, c2, c4, c6, gi25, i25, c26, c27, hv28, c29, c30, hv31, gi40, i40, c41]) rfl (by simp -implicitDefEqProofs only [go_sem, Nat.reduceEqDiff, Nat.reduceAdd, Nat.reduceLT, Nat.reduceLeDiff, Nat.reduceMul, Nat.reduceBEq, reduceIte]) (by simp -implicitDefEqProofs only [go_sem, Nat.reduceEqDiff, Nat.reduceAdd, Nat.reduceLT, Nat.reduceLeDiff, Nat.reduceMul, Nat.reduceBEq, reduceIte]) ?_ rfl rfl
          rcases ib h with ⟨c43, h⟩ | ⟨c43, h⟩
          · rcases ib h with ⟨c44, h⟩ | ⟨c44, h⟩
            · obtain ⟨v45, hv45, h⟩ := bs h
              replace hv45 := gis hv45
              simp -implicitDefEqProofs only [go_sem, Nat.reduceEqDiff, Nat.reduceAdd, Nat.reduceLT, Nat.reduceLeDiff, Nat.reduceMul, Nat.reduceBEq, reduceIte, c2, c4, c6, gi25, i25, c26, c27, hv28, c29, c30, hv31, gi40, i40, c41, c43, c44, hv45]
              refine eqS_TRat v45 r42.1 ?_
              cases h
              subst hQ
              simp -implicitDefEqProofs only [go_sem, Nat.reduceEqDiff, Nat.reduceAdd, Nat.reduceLT, Nat.reduceLeDiff, Nat.reduceMul, Nat.reduceBEq, reduceIte, c2, c4, c6, gi25, i25, c26, c27, hv28, c29, c30, hv31, gi40, i40, c41, c43, c44, hv45, Try.results4]
            · cases h
              subst hQ
              simp -implicitDefEqProofs only [go_sem, Nat.reduceEqDiff, Nat.reduceAdd, Nat.reduceLT, Nat.reduceLeDiff, Nat.reduceMul, Nat.reduceBEq, reduceIte, c2, c4, c6, gi25, i25, c26, c27, hv28, c29, c30, hv31, gi40, i40, c41, c43, c44, Try.results4]
          · cases h
            subst hQ
            simp -implicitDefEqProofs only [go_sem, Nat.reduceEqDiff, Nat.reduceAdd, Nat.reduceLT, Nat.reduceLeDiff, Nat.reduceMul, Nat.reduceBEq, reduceIte, c2, c4, c6, gi25, i25, c26, c27, hv28, c29, c30, hv31, gi40, i40, c41, c43, Try.results4]
end Go.E
end
section
set_option linter.all false
set_option maxRecDepth 10000
namespace Go.E
open Go Go.Proofs Go.Eng
def rr (r : TRat) : Bool := decide (BallQ.Right r.f0 r.f1)
def addR (a b : TRat) : TRat × Int := toR (addS a.f0 a.f1 b.f0 b.f1)
def mulR (a b : TRat) : TRat × Int := toR (mulS a.f0 a.f1 b.f0 b.f1)
def divR (a b : TRat) : TRat × Int := toR (divS a.f0 a.f1 b.f0 b.f1)
theorem rR {r : TRat} (h : in64R r) : m_rat_Right r = some (rr r) := by unfold m_rat_Right; rw [rq_true (decide_eq_true h)]; rfl
theorem aR {a b : TRat} (h : in64R a) (h' : in64R b) : m_rat_Add a b = some (addR a b) := by unfold m_rat_Add; rw [rq_true (decide_eq_true ⟨h, h'⟩)]; rfl
theorem mR {a b : TRat} (h : in64R a) (h' : in64R b) : m_rat_Mul a b = some (mulR a b) := by unfold m_rat_Mul; rw [rq_true (decide_eq_true ⟨h, h'⟩)]; rfl
theorem z64 : in64R ⟨0, 0⟩ := by decide
theorem n64 : in64R ⟨0, 1⟩ := by decide
theorem nR : rr ⟨0, 1⟩ = true := by decide +kernel
theorem out_good (x : Rat) : in64R (toR (BallQ.out x)).1 ∧ ((toR (BallQ.out x)).2 = 0 → rr (toR (BallQ.out x)).1 = true) ∧ ((toR (BallQ.out x)).2 = 0 ∨ (toR (BallQ.out x)).2 = 3) := by
  by_cases h : BallQ.fits x
  · rw [out_ok h]
    obtain ⟨h1, h2, h3⟩ := BallQ.right_fits h
    exact ⟨⟨h2, h3⟩, fun _ => decide_eq_true h1, .inl rfl⟩
  · rw [out_over h]
    exact ⟨z64, (fun e => by cases e), .inr rfl⟩
theorem err_good : in64R (toR (0, 0, 2)).1 ∧ ((toR (0, 0, 2)).2 = 0 → rr (toR (0, 0, 2)).1 = true) := ⟨z64, fun e => by cases e⟩
theorem add_good (a b : TRat) : in64R (addR a b).1 ∧ ((addR a b).2 = 0 → rr (addR a b).1 = true) := by
  unfold addR addS
  split
  · exact ⟨(out_good _).1, (out_good _).2.1⟩
  · exact err_good
theorem mul_good (a b : TRat) : in64R (mulR a b).1 ∧ ((mulR a b).2 = 0 → rr (mulR a b).1 = true) := by
  unfold mulR mulS
  split
  · exact ⟨(out_good _).1, (out_good _).2.1⟩
  · exact err_good
theorem div_good (a b : TRat) : in64R (divR a b).1 ∧ ((divR a b).2 = 0 → rr (divR a b).1 = true) := by
  unfold divR divS
  split
  · unfold mulS
    split
    · exact ⟨(out_good _).1, (out_good _).2.1⟩
    · exact err_good
  · exact err_good
theorem dR {a b : TRat} (h : in64R a) (h' : in64R b) : m_rat_Div a b = some (divR a b) := by
  unfold m_rat_Div
  rw [rR h, rR h']
  simp only [some_bind']
  unfold divR divS
  by_cases ha : BallQ.Right a.f0 a.f1
  · have ra : rr a = true := decide_eq_true ha
    by_cases hb : BallQ.Right b.f0 b.f1
    · have rb : rr b = true := decide_eq_true hb
      by_cases hz : b.f0 = 0
      · rw [if_neg (fun x => x.2.2 hz), ra, rb, decide_eq_true hz]; rfl
      · rw [if_pos ⟨ha, hb, hz⟩, ra, rb, decide_eq_false hz]
        obtain ⟨i0, i1, i2, _⟩ := inv_right hb h'.1 h'.2 hz
        obtain ⟨⟨n1, n2⟩, d1, d2⟩ := h'
        obtain ⟨b1, b2, _⟩ := hb
        simp only [Bool.not_true, ifB_false, some_bind']
        by_cases hneg : b.f0 < 0
        · rw [decide_eq_true hneg]
          have e1 : IntKind.wrap .i64 (0 - b.f1) = invN b.f0 b.f1 := by unfold invN; rw [if_pos hneg, wrap_i64 (by omega) (by omega)]; omega
          have e2 : IntKind.wrap .i64 (0 - b.f0) = (b.f0.natAbs : Int) := by rw [wrap_i64 (by omega) (by omega)]; omega
          simp only [ifB_true, some_bind']
          rw [e1, e2, mR h (b := ⟨invN b.f0 b.f1, (b.f0.natAbs : Int)⟩) ⟨i1, i2⟩]
          rfl
        · rw [decide_eq_false hneg]
          have e1 : b.f1 = invN b.f0 b.f1 := by unfold invN; rw [if_neg hneg]
          have e2 : b.f0 = (b.f0.natAbs : Int) := by omega
          simp only [ifB_false, some_bind']
          have := mR h (b := ⟨invN b.f0 b.f1, (b.f0.natAbs : Int)⟩) ⟨i1, i2⟩
          rw [← e1, ← e2] at this
          rw [this]
          simp only [some_bind']
          unfold mulR
          rw [← e1, ← e2]
    · have rb : rr b = false := decide_eq_false hb
      rw [if_neg (fun x => hb x.2.1), ra, rb]; rfl
  · have ra : rr a = false := decide_eq_false ha
    rw [if_neg (fun x => ha x.1), ra]; rfl
structure in64T (t : TTerm) : Prop where
  k : in64R t.f1
  c : ∀ r ∈ t.f0, in64R r
  len : t.f0.length ≤ 1000
def rt (t : TTerm) : Bool := decide (t.f0.length ≤ 8) && rr t.f1 && t.f0.all rr
theorem len8 {n : Nat} : decide ((n : Int) ≤ 8) = decide (n ≤ 8) := decide_eq_decide.2 (by omega)
theorem idxR {l : List TRat} {f : TRat → Option Bool} {g : TRat → Bool} (h : l.length ≤ 1000) (hf : ∀ o ∈ l, f o = some (g o)) : m_slices_ContainsFunc_api_Rat l f = some (l.any g) := by
  unfold m_slices_ContainsFunc_api_Rat m_slices_IndexFunc_api_Rat
  rw [show ((0 : Int)) = ((0 : Nat) : Int) from rfl, loopO_first (b := m_slices_IndexFunc_api_Rat_L0 l f) (fun i : Nat => (i : Int)) l.length (fun i => match l[i]? with | some o => g o | none => false) (fun i => (i : Int)) () ?_ ?_]
  · cases hq : fst l.length (fun i => match l[i]? with | some o => g o | none => false) with
    | none =>
      rw [fst_none] at hq
      have : l.any g = false := by
        rw [List.any_eq_false]
        intro x hx
        obtain ⟨i, hi, rfl⟩ := List.getElem_of_mem hx
        have := hq i hi
        rw [List.getElem?_eq_getElem hi] at this
        simpa using this
      rw [this]; rfl
    | some i =>
      obtain ⟨h1, h2⟩ := fst_some hq
      rw [List.getElem?_eq_getElem h1] at h2
      have : l.any g = true := List.any_eq_true.2 ⟨_, List.getElem_mem h1, h2⟩
      rw [this]
      simp only [some_bind']
      rw [decide_eq_true (show ((0 : Nat) : Int) ≤ (i : Int) by omega)]
  · intro i hi _
    unfold m_slices_IndexFunc_api_Rat_L0
    simp only [lt_cast, decide_eq_true hi, ifB_true, gi_of hi, some_bind', hf _ (List.getElem_mem hi), List.getElem?_eq_getElem hi]
    rw [wrap_succ (by omega)]
    cases g l[i] <;> rfl
  · intro _
    unfold m_slices_IndexFunc_api_Rat_L0
    simp only [lt_cast, Nat.lt_irrefl, decide_false, ifB_false]
theorem any_not {l : List TRat} : (!(l.any fun r => !rr r)) = l.all rr := by
  induction l with
  | nil => rfl
  | cons a l ih => simp only [List.any_cons, List.all_cons, Bool.not_or, Bool.not_not, ih]
theorem tR {t : TTerm} (h : in64T t) : m_term_Right t = some (rt t) := by
  unfold m_term_Right rt
  rw [len8, rR h.k]
  have hl := h.len
  rw [idxR (g := fun r => !rr r) hl fun r hr => by unfold m_term_Right_1; rw [rR (h.c r hr)]; rfl]
  simp only [some_bind', any_not]
  cases decide (t.f0.length ≤ 8) <;> cases rr t.f1 <;> rfl
def atT (t : TTerm) (i : Nat) : TRat := (t.f0[i]?).getD ⟨0, 1⟩
theorem at_in {t : TTerm} (h : in64T t) (i : Nat) : in64R (atT t i) := by
  unfold atT
  cases hq : t.f0[i]? with
  | none => exact n64
  | some r => exact h.c r (List.mem_of_getElem? hq)
theorem at_rr {t : TTerm} (h : rt t = true) (i : Nat) : rr (atT t i) = true := by
  unfold atT
  cases hq : t.f0[i]? with
  | none => exact nR
  | some r =>
    unfold rt at h
    simp only [Bool.and_eq_true] at h
    exact List.all_eq_true.1 h.2 r (List.mem_of_getElem? hq)
theorem atP {t : TTerm} {i : Nat} : m_term_At t (i : Int) = some (atT t i) := by
  unfold m_term_At m_term_nought atT
  rw [decide_eq_false (show ¬ (i : Int) < 0 by omega)]
  by_cases h : i < t.f0.length
  · rw [decide_eq_false (show ¬ (t.f0.length : Int) ≤ (i : Int) by omega), gi_of h, List.getElem?_eq_getElem h]; rfl
  · rw [decide_eq_true (show (t.f0.length : Int) ≤ (i : Int) by omega), List.getElem?_eq_none (by omega)]; rfl
def cutN (l : List TRat) : Nat → Nat
  | 0 => 0
  | n + 1 => match l[n]? with
    | some r => if r.f0 = 0 then cutN l n else n + 1
    | none => cutN l n
theorem cutN_le (l : List TRat) : ∀ n, cutN l n ≤ n
  | 0 => Nat.le_refl _
  | n + 1 => by
    unfold cutN
    have := cutN_le l n
    split
    · split <;> omega
    · omega
theorem cutN_succ {l : List TRat} {n : Nat} (h : n < l.length) : cutN l (n + 1) = if (l[n]).f0 = 0 then cutN l n else n + 1 := by
  show (match l[n]? with | some r => if r.f0 = 0 then cutN l n else n + 1 | none => cutN l n) = _
  rw [List.getElem?_eq_getElem h]
def trimT (t : TTerm) : TTerm := ⟨t.f0.take (cutN t.f0 t.f0.length), t.f1⟩
theorem subL_take {l : List TRat} {n : Nat} (h : n ≤ l.length) : subL l 0 (n : Int) = some (l.take n) := by
  unfold subL
  simp [h]
theorem trimP {t : TTerm} (h : t.f0.length ≤ 1000) : m_term_trim t = some (trimT t) := by
  unfold m_term_trim
  have main : ∀ n, n ≤ t.f0.length → loopO (m_term_trim_L0 t) (n : Int) = some ((cutN t.f0 n : Nat) : Int) := by
    intro n
    induction n with
    | zero =>
      intro _
      refine loopO_inr ?_
      rfl
    | succ n ih =>
      intro hn
      have hlt : n < t.f0.length := by omega
      have e1 : IntKind.wrap .i64 (((n + 1 : Nat) : Int) - 1) = (n : Int) := by rw [wrap_i64 (by omega) (by omega)]; omega
      have hb : m_term_trim_L0 t ((n + 1 : Nat) : Int) = if (t.f0[n]).f0 = 0 then some (.inl (n : Int)) else some (.inr ((n + 1 : Nat) : Int)) := by
        unfold m_term_trim_L0
        dsimp only
        rw [decide_eq_true (show (0 : Int) < ((n + 1 : Nat) : Int) by omega), ifB_true, e1, gi_of hlt]
        simp only [some_bind']
        by_cases hz : (t.f0[n]).f0 = 0
        · rw [if_pos hz, decide_eq_true hz]; rfl
        · rw [if_neg hz, decide_eq_false hz]; rfl
      rw [cutN_succ hlt]
      by_cases hz : (t.f0[n]).f0 = 0
      · rw [if_pos hz]
        rw [if_pos hz] at hb
        rw [loopO_inl hb]
        exact ih (by omega)
      · rw [if_neg hz]
        rw [if_neg hz] at hb
        exact loopO_inr hb
  rw [main _ (Nat.le_refl _)]
  have hc := cutN_le t.f0 t.f0.length
  simp only [some_bind', subL_take hc]
  unfold m_slices_Clone_api_Rat
  rw [rq_true (decide_eq_true (by rw [List.length_take]; omega))]
  rfl
def ownT (t : TTerm) : TTerm := if rt t then trimT t else ⟨[], ⟨0, 1⟩⟩
theorem ownP {t : TTerm} (h : in64T t) : m_term_Own t = some (ownT t) := by
  unfold m_term_Own m_term_nought ownT
  rw [tR h]
  simp only [some_bind']
  cases rt t with
  | false => rfl
  | true =>
    simp only [Bool.not_true, ifB_false, trimP h.len, some_bind']
    rfl
end Go.E
end
section
set_option linter.all false
set_option maxRecDepth 10000
namespace Go.E
open Go Go.Proofs Go.Eng
abbrev zT : TTerm := ⟨[], ⟨0, 0⟩⟩
def lst (f : Nat → TRat × Int) (n : Nat) : List TRat := (List.range n).map fun i => (f i).1
theorem lst_succ {f : Nat → TRat × Int} {n : Nat} : lst f (n + 1) = lst f n ++ [(f n).1] := by
  unfold lst; rw [List.range_succ, List.map_append]; rfl
theorem lst_len {f : Nat → TRat × Int} {n : Nat} : (lst f n).length = n := by unfold lst; simp
def bad (f : Nat → TRat × Int) (i : Nat) : Bool := !decide ((f i).2 = 0)
def eachT (k : TRat × Int) (f : Nat → TRat × Int) (n : Nat) : TTerm × Int := if k.2 = 0 then (match fst n (bad f) with | some i => (zT, (f i).2) | none => (trimT ⟨lst f n, k.1⟩, 0)) else (zT, k.2)
theorem eachP {n : Nat} {g : Int → Option (TRat × Int)} {k : TRat × Int} {f : Nat → TRat × Int} (h : n ≤ 1000) (hk : g (-1) = some k) (hf : ∀ i : Nat, i < n → g (i : Int) = some (f i)) : m_term_each (n : Int) g = some (eachT k f n) := by
  unfold m_term_each
  have en : IntKind.wrap .i64 ((n : Int) + 1) = ((n + 1 : Nat) : Int) := wrap_succ (by omega)
  have first : m_term_each_L0 (n : Int) g (0, [], 0, 0) = if k.2 = 0 then some (.inl (1, [], k.1.f0, k.1.f1)) else some (.inr (.inr (zT, k.2))) := by
    unfold m_term_each_L0
    dsimp only
    rw [en, decide_eq_true (show (0 : Int) < ((n + 1 : Nat) : Int) by omega), ifB_true, show IntKind.wrap .i64 ((0 : Int) - 1) = -1 from rfl, hk]
    simp only [some_bind']
    by_cases hz : k.2 = 0
    · rw [if_pos hz, decide_eq_true hz]; rfl
    · rw [if_neg hz, decide_eq_false hz]; rfl
  unfold eachT
  by_cases hz : k.2 = 0
  · rw [if_pos hz] at first ⊢
    rw [loopO_inl first]
    have key : loopO (m_term_each_L0 (n : Int) g) (1, [], k.1.f0, k.1.f1) = some (match fst n (bad f) with | some i => .inr (zT, (f i).2) | none => .inl (lst f n, k.1.f0, k.1.f1)) := by
      have := loopO_first (b := m_term_each_L0 (n : Int) g) (fun i : Nat => (((i + 1 : Nat) : Int), lst f i, k.1.f0, k.1.f1)) n (bad f) (fun i => (zT, (f i).2)) (lst f n, k.1.f0, k.1.f1) ?_ ?_
      · exact this
      · intro i hi _
        unfold m_term_each_L0
        dsimp only
        have e1 : IntKind.wrap .i64 (((i + 1 : Nat) : Int) - 1) = (i : Int) := by rw [wrap_i64 (by omega) (by omega)]; omega
        rw [en, decide_eq_true (show ((i + 1 : Nat) : Int) < ((n + 1 : Nat) : Int) by omega), ifB_true, e1, hf i hi]
        simp only [some_bind']
        unfold bad
        by_cases hz : (f i).2 = 0
        · rw [decide_eq_true hz, decide_eq_false (show ¬ ((i + 1 : Nat) : Int) = 0 by omega)]
          simp only [Bool.not_true, ifB_false]
          rw [rq_true (decide_eq_true (by rw [lst_len]; simp; omega)), wrap_succ (by omega), ← lst_succ]
          rfl
        · rw [decide_eq_false hz]; rfl
      · intro _
        unfold m_term_each_L0
        dsimp only
        rw [en, decide_eq_false (show ¬ ((n + 1 : Nat) : Int) < ((n + 1 : Nat) : Int) by omega)]
        rfl
    rw [key]
    cases fst n (bad f) with
    | some i => rfl
    | none =>
      simp only [some_bind']
      rw [trimP (t := ⟨lst f n, ⟨k.1.f0, k.1.f1⟩⟩) (by dsimp only; rw [lst_len]; omega)]
      rfl
  · rw [if_neg hz] at first ⊢
    rw [loopO_inr first]
    rfl
def addT (a b : TTerm) : TTerm × Int := if rt a && rt b then eachT (addR a.f1 b.f1) (fun i => addR (atT a i) (atT b i)) (max a.f0.length b.f0.length) else (zT, 2)
def mulT (a : TTerm) (r : TRat) : TTerm × Int := if rt a && rr r then eachT (mulR a.f1 r) (fun i => mulR (atT a i) r) a.f0.length else (zT, 2)
theorem oneP {t : TTerm} {i : Nat} : m_term_one t (i : Int) = some (atT t i) := by
  unfold m_term_one
  rw [decide_eq_false (show ¬ (i : Int) < 0 by omega), atP]; rfl
theorem one1 {t : TTerm} : m_term_one t (-1) = some t.f1 := rfl
theorem addP {a b : TTerm} (ha : in64T a) (hb : in64T b) : m_term_Add a b = some (addT a b) := by
  unfold m_term_Add addT
  rw [tR ha, tR hb]
  simp only [some_bind']
  cases h1 : rt a with
  | false => rfl
  | true =>
    cases h2 : rt b with
    | false => rfl
    | true =>
      simp only [Bool.not_true, ifB_false, some_bind', Bool.and_self, if_true]
      have em : (if (a.f0.length : Int) < (b.f0.length : Int) then (b.f0.length : Int) else (a.f0.length : Int)) = ((max a.f0.length b.f0.length : Nat) : Int) := by split <;> omega
      have la := ha.len
      have lb := hb.len
      rw [em, eachP (k := addR a.f1 b.f1) (f := fun i => addR (atT a i) (atT b i)) (by omega) ?_ ?_]
      · rfl
      · unfold m_term_Add_1
        rw [one1, one1]
        simp only [some_bind', aR ha.k hb.k]
      · intro i _
        unfold m_term_Add_1
        rw [oneP, oneP]
        simp only [some_bind', aR (at_in ha i) (at_in hb i)]
theorem scaleP {a : TTerm} {r : TRat} (ha : in64T a) (hr : in64R r) : m_term_Scale a r = some (mulT a r) := by
  unfold m_term_Scale mulT
  rw [tR ha, rR hr]
  simp only [some_bind']
  cases h1 : rt a with
  | false => rfl
  | true =>
    cases h2 : rr r with
    | false => rfl
    | true =>
      simp only [Bool.not_true, ifB_false, some_bind', Bool.and_self, if_true]
      have la := ha.len
      rw [eachP (k := mulR a.f1 r) (f := fun i => mulR (atT a i) r) (by omega) ?_ ?_]
      · rfl
      · unfold m_term_Scale_1
        rw [one1]
        simp only [some_bind', mR ha.k hr]
      · intro i _
        unfold m_term_Scale_1
        rw [oneP]
        simp only [some_bind', mR (at_in ha i) hr]
theorem lst_in {f : Nat → TRat × Int} {k : TRat} {n : Nat} (h : n ≤ 1000) (hk : in64R k) (hf : ∀ i, in64R (f i).1) : in64T ⟨lst f n, k⟩ :=
  ⟨hk, fun r hr => by unfold lst at hr; obtain ⟨i, _, rfl⟩ := List.mem_map.1 hr; exact hf i, by dsimp only; rw [lst_len]; exact h⟩
theorem lst_rt {f : Nat → TRat × Int} {k : TRat} {n : Nat} (h : n ≤ 8) (hk : rr k = true) (hf : ∀ i, i < n → rr (f i).1 = true) : rt ⟨lst f n, k⟩ = true := by
  unfold rt
  dsimp only
  rw [lst_len, decide_eq_true h, hk]
  simp only [Bool.and_self, Bool.true_and]
  rw [List.all_eq_true]
  intro r hr
  unfold lst at hr
  obtain ⟨i, hi, rfl⟩ := List.mem_map.1 hr
  exact hf i (List.mem_range.1 hi)
theorem rt_len {t : TTerm} (h : rt t = true) : t.f0.length ≤ 8 := by
  unfold rt at h
  simp only [Bool.and_eq_true, decide_eq_true_eq] at h
  exact h.1.1
theorem trim_in {t : TTerm} (h : in64T t) : in64T (trimT t) := by
  refine ⟨h.k, fun r hr => h.c r (List.mem_of_mem_take hr), ?_⟩
  have := h.len
  unfold trimT
  dsimp only
  rw [List.length_take]; omega
theorem trim_rt {t : TTerm} (h : rt t = true) : rt (trimT t) = true := by
  unfold rt at h ⊢
  simp only [Bool.and_eq_true, decide_eq_true_eq, List.all_eq_true] at h ⊢
  refine ⟨⟨?_, h.1.2⟩, fun r hr => h.2 r (List.mem_of_mem_take hr)⟩
  unfold trimT
  dsimp only
  rw [List.length_take]; omega
theorem z_in : in64T zT := ⟨z64, (fun _ h => by cases h), Nat.zero_le _⟩
theorem each_good {k : TRat × Int} {f : Nat → TRat × Int} {n : Nat} (h : n ≤ 8) (hk : in64R k.1 ∧ (k.2 = 0 → rr k.1 = true)) (hf : ∀ i, in64R (f i).1 ∧ ((f i).2 = 0 → rr (f i).1 = true)) :
    in64T (eachT k f n).1 ∧ ((eachT k f n).2 = 0 → rt (eachT k f n).1 = true) := by
  unfold eachT
  by_cases hz : k.2 = 0
  · rw [if_pos hz]
    cases hq : fst n (bad f) with
    | some i =>
      have := (fst_some hq).2
      unfold bad at this
      simp at this
      exact ⟨z_in, fun e => absurd e this⟩
    | none =>
      have hb0 := fst_none.1 hq
      exact ⟨trim_in (lst_in (by omega) hk.1 fun i => (hf i).1), fun _ => trim_rt (lst_rt h (hk.2 hz) fun i hi => (hf i).2 (by have := hb0 i hi; unfold bad at this; simpa using this))⟩
  · rw [if_neg hz]
    exact ⟨z_in, fun e => absurd e hz⟩
theorem addT_good {a b : TTerm} : in64T (addT a b).1 ∧ ((addT a b).2 = 0 → rt (addT a b).1 = true) := by
  unfold addT
  split
  · rename_i h
    simp only [Bool.and_eq_true] at h
    have := rt_len h.1
    have := rt_len h.2
    exact each_good (by omega) (add_good _ _) fun i => add_good _ _
  · exact ⟨z_in, fun e => by cases e⟩
theorem mulT_good {a : TTerm} {r : TRat} : in64T (mulT a r).1 ∧ ((mulT a r).2 = 0 → rt (mulT a r).1 = true) := by
  unfold mulT
  split
  · rename_i h
    simp only [Bool.and_eq_true] at h
    have := rt_len h.1
    exact each_good (by omega) (mul_good _ _) fun i => mul_good _ _
  · exact ⟨z_in, fun e => by cases e⟩
end Go.E
end
