import Derived.Test.YtfcehcjhilmlgaaSc8
section
set_option linter.all false
set_option maxRecDepth 100000
namespace Go.E
open Go Go.Proofs Go.Eng
variable {TB : Nat → Option Obj}
theorem m_bound_engine_plain_ev (a0 : TBound_engine) (a1 : TRow) (a2 : List TTerm) (a3 : List Int) (r0 : TRow × TBound_engine) (h : m_bound_engine_plain a0 a1 a2 a3 = some r0) (d : Nat) (G : Heap) (e0 t0 : Nat) (he0 : e0 ≤ d) (hGt0 : G e0 t0 = [.box [.p (.bool a0.f0)]]) : Tel Try.prog TB d 37 [.bp (e0, t0, 0) 0, .agg ((cTRow a1).map .p), .p (.sl (a2.map cTTerm)), .p (.sl (a3.map cii64))] G (.agg ((cTRow r0.1).map .p)) (fillKey (G) e0 t0 ([.box [.p (.bool r0.2.f0)]])) := by
  unfold m_bound_engine_plain at h
  refine Tel.intro mix Try.func37 rfl (Nat.le_of_ble_eq_true rfl) {openAt := fun t => t == 48 || t == 61, frzAt := fun t => t == 26 || t == 45 || t == 58, boxAt := fun t => if t = 11 then some 11 else if t = 20 then some 5 else if t = 24 then some 900024 else none, clean := fun r => if r = 2 then [10, 11, 12] else []} (by kernel_rfl) (by kernel_rfl) ?_
  have le0 : (e0 ≤ d + 1) = True := by simp; omega
  have qe0 : (e0 = d + 1) = False := by simp; omega
  have pe0 : (d + 1 = e0) = False := by simp; omega
  refine gwp_heap (H' := fillKey (cut d G) e0 t0 [.box [.p (.bool a0.f0)]]) ?_ ?_
  · rw [fill_self (B := cut d G) (a := e0) (b := t0) (by rw [cut_app, if_pos he0]; exact hGt0)]
  generalize hQ : callPost _ _ _ _ _ = Q
  simp -implicitDefEqProofs only [go_sem, he0, le0, qe0, pe0]
  obtain ⟨z11, hL11, h⟩ := bs h
  obtain ⟨I11, hI11⟩ : ∃ I : (Int × Bool × (List TRat) × Int × Int) → St → Prop, I = fun a s => match a with | (v12, v13, v14, v15, v16) => s.G = fillKey (fillKey (fillKey (cut d G) e0 t0 [.box [.p (.bool v13)]]) (d + 1) 5 [.box [.p (.int .i64 a1.f0), .p (.sl (v14.map cTRat)), .p (.int .i64 v15), .p (.int .i64 v16)]]) (d + 1) 8 [.box [.p (.int .i64 0), .csl [], .p (.int .i64 0), .p (.int .i64 0)]] ∧ s.F 0 = .bp (e0, t0, 0) 0 ∧ s.F 3 = .p (.sl (a3.map cii64)) ∧ s.F 5 = .bp (d + 1, 5, 0) 0 ∧ s.F 8 = .bp (d + 1, 8, 0) 0 ∧ s.F 13 = .p (.sl (a2.map cTTerm)) ∧ s.F 14 = .p (.int .i64 (a2.length : Int)) ∧ s.F 15 = .p (.int .i64 v12) ∧ True := ⟨_, rfl⟩
  obtain ⟨R11, hR11⟩ : ∃ R : (Bool × (List TRat) × Int × Int) → GE → St → Prop, R = fun x e s => match x with | (v17, v18, v19, v20) => e = .exit 0 ∧ s.G = fillKey (fillKey (fillKey (cut d G) e0 t0 [.box [.p (.bool v17)]]) (d + 1) 5 [.box [.p (.int .i64 a1.f0), .p (.sl (v18.map cTRat)), .p (.int .i64 v19), .p (.int .i64 v20)]]) (d + 1) 8 [.box [.p (.int .i64 0), .csl [], .p (.int .i64 0), .p (.int .i64 0)]] ∧ s.F 5 = .bp (d + 1, 5, 0) 0 ∧ s.F 8 = .bp (d + 1, 8, 0) 0 ∧ True := ⟨_, rfl⟩
  refine lp (ts := [10, 11, 12]) rfl hL11 I11 R11 ?_ ?_ ?_
  · rw [hI11]
    simp -implicitDefEqProofs only [go_sem, he0, le0, qe0, pe0]
  · clear h hL11
    rintro ⟨v12, v13, v14, v15, v16⟩ y s h i
    rw [hI11] at i
    obtain ⟨gi11, i11⟩ := i
    replace h : m_bound_engine_plain_L0 a2 a3 (v12, v13, v14, v15, v16) = some y := h
    unfold m_bound_engine_plain_L0 at h
    rcases ib h with ⟨c21, h⟩ | ⟨c21, h⟩
    · obtain ⟨v22, hv22, h⟩ := bs h
      replace hv22 := gis hv22
      obtain ⟨v23, hv23, h⟩ := bs h
      replace hv23 := gis hv23
      obtain ⟨r24, hr24, h⟩ := bs h
      simp -implicitDefEqProofs only [go_sem, he0, le0, qe0, pe0, gi11, i11, c21, hv22, hv23]
      refine call_frz (r' := .agg [.p (.int .i64 r24.f0), .p (.int .i64 r24.f1)]) (m_term_At_ev (⟨v14, (⟨v15, v16⟩ : TRat)⟩ : TTerm) v23 r24 hr24 (d + 1) empty) (by simp -implicitDefEqProofs only [go_sem, he0, le0, qe0, pe0, gi11, i11, c21, hv22, hv23]) rfl (by simp -implicitDefEqProofs only [go_sem]) (by simp -implicitDefEqProofs only [go_sem]) ?_ rfl rfl
      simp -implicitDefEqProofs only [go_sem, he0, le0, qe0, pe0, gi11, i11, c21, hv22, hv23]
      obtain ⟨v25, hz, h⟩ := bs h
      obtain ⟨R26, hR26⟩ : ∃ R : St → Prop, R = fun s => s.G = fillKey (fillKey (fillKey (fillKey (fillKey (cut d G) e0 t0 [.box [.p (.bool v13)]]) (d + 1) 5 [.box [.p (.int .i64 a1.f0), .p (.sl (v14.map cTRat)), .p (.int .i64 v15), .p (.int .i64 v16)]]) (d + 1) 8 [.box [.p (.int .i64 0), .csl [], .p (.int .i64 0), .p (.int .i64 0)]]) (d + 1) 10 [.box [.p (.sl (v22.f0.map cTRat)), .p (.int .i64 v22.f1.f0), .p (.int .i64 v22.f1.f1)]]) (d + 1) 11 [.box [.p (.int .i64 r24.f0), .p (.int .i64 r24.f1)]] ∧ s.F 0 = .bp (e0, t0, 0) 0 ∧ s.F 3 = .p (.sl (a3.map cii64)) ∧ s.F 5 = .bp (d + 1, 5, 0) 0 ∧ s.F 8 = .bp (d + 1, 8, 0) 0 ∧ s.F 10 = .bp (d + 1, 10, 0) 0 ∧ s.F 11 = .bp (d + 1, 11, 0) 0 ∧ s.F 13 = .p (.sl (a2.map cTTerm)) ∧ s.F 14 = .p (.int .i64 (a2.length : Int)) ∧ s.F 15 = .p (.int .i64 v12) ∧ s.F 36 = .p (.bool v25) ∧ True := ⟨_, rfl⟩
      refine cutR R26 ?_ ?_
      · replace h := hz
        rcases ib h with ⟨c27, h⟩ | ⟨c27, h⟩
        · cases h
          simp -implicitDefEqProofs only [go_sem, he0, le0, qe0, pe0, gi11, i11, c21, hv22, hv23, c27]
          rw [hR26]
          simp -implicitDefEqProofs only [go_sem, he0, le0, qe0, pe0, gi11, i11, c21, hv22, hv23, c27]
        · cases h
          simp -implicitDefEqProofs only [go_sem, he0, le0, qe0, pe0, gi11, i11, c21, hv22, hv23, c27]
          rw [hR26]
          simp -implicitDefEqProofs only [go_sem, he0, le0, qe0, pe0, gi11, i11, c21, hv22, hv23, c27]
      · replace h := h; clear hz
        rintro s i
        rw [hR26] at i
        obtain ⟨gi28, i28⟩ := i
        clear hR26
        try dsimp only at h
        simp -implicitDefEqProofs only [go_sem, he0, le0, qe0, pe0, gi11, i11, c21, hv22, hv23, gi28, i28]
        obtain ⟨⟨v29, v30, v31, v32⟩, hz, h⟩ := bs h
        obtain ⟨R34, hR34⟩ : ∃ R : St → Prop, R = fun s => ∃ j33, s.G = fillKey (fillKey (fillKey (fillKey (fillKey (fillKey (cut d G) e0 t0 [.box [.p (.bool v29)]]) (d + 1) 5 [.box [.p (.int .i64 a1.f0), .p (.sl (v30.map cTRat)), .p (.int .i64 v31), .p (.int .i64 v32)]]) (d + 1) 8 [.box [.p (.int .i64 0), .csl [], .p (.int .i64 0), .p (.int .i64 0)]]) (d + 1) 10 [.box [.p (.sl (v22.f0.map cTRat)), .p (.int .i64 v22.f1.f0), .p (.int .i64 v22.f1.f1)]]) (d + 1) 11 [.box [.p (.int .i64 r24.f0), .p (.int .i64 r24.f1)]]) (d + 1) 12 j33 ∧ s.F 0 = .bp (e0, t0, 0) 0 ∧ s.F 3 = .p (.sl (a3.map cii64)) ∧ s.F 5 = .bp (d + 1, 5, 0) 0 ∧ s.F 8 = .bp (d + 1, 8, 0) 0 ∧ s.F 13 = .p (.sl (a2.map cTTerm)) ∧ s.F 14 = .p (.int .i64 (a2.length : Int)) ∧ s.F 15 = .p (.int .i64 v12) ∧ True := ⟨_, rfl⟩
        refine cutG R34 ?_ ?_
        · replace h := hz
          rcases ib h with ⟨c35, h⟩ | ⟨c35, h⟩
          · obtain ⟨r36, hr36, h⟩ := bs h
            simp -implicitDefEqProofs only [go_sem, he0, le0, qe0, pe0, gi11, i11, c21, hv22, hv23, gi28, i28, c35]
            refine call_frz (r' := .tup [.agg [.p (.sl (r36.1.f0.map cTRat)), .p (.int .i64 r36.1.f1.f0), .p (.int .i64 r36.1.f1.f1)], .p (.int .i64 r36.2)]) (m_term_Scale_ev v22 (⟨IntKind.wrap .i64 (0 - r24.f0), r24.f1⟩ : TRat) r36 hr36 (d + 1) empty) (by simp -implicitDefEqProofs only [go_sem, he0, le0, qe0, pe0, gi11, i11, c21, hv22, hv23, gi28, i28, c35]) rfl (by simp -implicitDefEqProofs only [go_sem]) (by simp -implicitDefEqProofs only [go_sem]) ?_ rfl rfl
            obtain ⟨r37, hr37, h⟩ := bs h
            simp -implicitDefEqProofs only [go_sem, he0, le0, qe0, pe0, gi11, i11, c21, hv22, hv23, gi28, i28, c35]
            refine call_open0 (t0 := 999) (r := .agg [.p (.sl (r37.1.f0.map cTRat)), .p (.int .i64 r37.1.f1.f0), .p (.int .i64 r37.1.f1.f1)]) (m_bound_engine_term_ev (⟨v13⟩ : TBound_engine) r36.1 r36.2 r37 hr37 (d + 1) _ e0 t0 (Nat.le_succ_of_le he0) (by simp -implicitDefEqProofs only [go_sem, he0, le0, qe0, pe0, gi11, i11, c21, hv22, hv23, gi28, i28, c35]) ) (by simp -implicitDefEqProofs only [go_sem, he0, le0, qe0, pe0, gi11, i11, c21, hv22, hv23, gi28, i28, c35]) rfl (by simp -implicitDefEqProofs only [go_sem, he0, le0, qe0, pe0, gi11, i11, c21, hv22, hv23, gi28, i28, c35]) (by simp -implicitDefEqProofs only [go_sem, he0, le0, qe0, pe0, gi11, i11, c21, hv22, hv23, gi28, i28, c35]) (by simp -implicitDefEqProofs only [go_sem]) ?_
            simp -implicitDefEqProofs only [go_sem, he0, le0, qe0, pe0, gi11, i11, c21, hv22, hv23, gi28, i28, c35]
            obtain ⟨⟨v38, v39, v40, v41⟩, hz, h⟩ := bs h
            obtain ⟨R42, hR42⟩ : ∃ R : St → Prop, R = fun s => s.G = fillKey (fillKey (fillKey (fillKey (fillKey (fillKey (cut d G) e0 t0 [.box [.p (.bool v38)]]) (d + 1) 5 [.box [.p (.int .i64 a1.f0), .p (.sl (v39.map cTRat)), .p (.int .i64 v40), .p (.int .i64 v41)]]) (d + 1) 8 [.box [.p (.int .i64 0), .csl [], .p (.int .i64 0), .p (.int .i64 0)]]) (d + 1) 10 [.box [.p (.sl (v22.f0.map cTRat)), .p (.int .i64 v22.f1.f0), .p (.int .i64 v22.f1.f1)]]) (d + 1) 11 [.box [.p (.int .i64 r24.f0), .p (.int .i64 r24.f1)]]) (d + 1) 12 [.box [.p (.sl (r37.1.f0.map cTRat)), .p (.int .i64 r37.1.f1.f0), .p (.int .i64 r37.1.f1.f1)]] ∧ s.F 0 = .bp (e0, t0, 0) 0 ∧ s.F 3 = .p (.sl (a3.map cii64)) ∧ s.F 5 = .bp (d + 1, 5, 0) 0 ∧ s.F 8 = .bp (d + 1, 8, 0) 0 ∧ s.F 13 = .p (.sl (a2.map cTTerm)) ∧ s.F 14 = .p (.int .i64 (a2.length : Int)) ∧ s.F 15 = .p (.int .i64 v12) ∧ True := ⟨_, rfl⟩
            refine cutG R42 ?_ ?_
            · replace h := hz
              rcases ib h with ⟨c43, h⟩ | ⟨c43, h⟩
              · obtain ⟨r44, hr44, h⟩ := bs h
                simp -implicitDefEqProofs only [go_sem, he0, le0, qe0, pe0, gi11, i11, c21, hv22, hv23, gi28, i28, c35, c43]
                refine call_frz (r' := .tup [.agg [.p (.sl (r44.1.f0.map cTRat)), .p (.int .i64 r44.1.f1.f0), .p (.int .i64 r44.1.f1.f1)], .p (.int .i64 r44.2)]) (m_term_Add_ev (⟨v14, (⟨v15, v16⟩ : TRat)⟩ : TTerm) r37.1 r44 hr44 (d + 1) empty) (by simp -implicitDefEqProofs only [go_sem, he0, le0, qe0, pe0, gi11, i11, c21, hv22, hv23, gi28, i28, c35, c43]) rfl (by simp -implicitDefEqProofs only [go_sem]) (by simp -implicitDefEqProofs only [go_sem]) ?_ rfl rfl
                obtain ⟨r45, hr45, h⟩ := bs h
                simp -implicitDefEqProofs only [go_sem, he0, le0, qe0, pe0, gi11, i11, c21, hv22, hv23, gi28, i28, c35, c43]
                refine call_open0 (t0 := 999) (r := .agg [.p (.sl (r45.1.f0.map cTRat)), .p (.int .i64 r45.1.f1.f0), .p (.int .i64 r45.1.f1.f1)]) (m_bound_engine_term_ev r37.2 r44.1 r44.2 r45 hr45 (d + 1) _ e0 t0 (Nat.le_succ_of_le he0) (by simp -implicitDefEqProofs only [go_sem, he0, le0, qe0, pe0, gi11, i11, c21, hv22, hv23, gi28, i28, c35, c43]) ) (by simp -implicitDefEqProofs only [go_sem, he0, le0, qe0, pe0, gi11, i11, c21, hv22, hv23, gi28, i28, c35, c43]) rfl (by simp -implicitDefEqProofs only [go_sem, he0, le0, qe0, pe0, gi11, i11, c21, hv22, hv23, gi28, i28, c35, c43]) (by simp -implicitDefEqProofs only [go_sem, he0, le0, qe0, pe0, gi11, i11, c21, hv22, hv23, gi28, i28, c35, c43]) (by simp -implicitDefEqProofs only [go_sem]) ?_
                cases h
                simp -implicitDefEqProofs only [go_sem, he0, le0, qe0, pe0, gi11, i11, c21, hv22, hv23, gi28, i28, c35, c43]
                rw [hR42]
                simp -implicitDefEqProofs only [go_sem, he0, le0, qe0, pe0, gi11, i11, c21, hv22, hv23, gi28, i28, c35, c43]
              · cases h
                simp -implicitDefEqProofs only [go_sem, he0, le0, qe0, pe0, gi11, i11, c21, hv22, hv23, gi28, i28, c35, c43]
                rw [hR42]
                simp -implicitDefEqProofs only [go_sem, he0, le0, qe0, pe0, gi11, i11, c21, hv22, hv23, gi28, i28, c35, c43]
            · replace h := h; clear hz
              rintro s i
              rw [hR42] at i
              obtain ⟨gi46, i46⟩ := i
              clear hR42
              try dsimp only at h
              cases h
              simp -implicitDefEqProofs only [go_sem, he0, le0, qe0, pe0, gi11, i11, c21, hv22, hv23, gi28, i28, c35, gi46, i46]
              rw [hR34]
              refine ⟨[.box [.p (.sl (r37.1.f0.map cTRat)), .p (.int .i64 r37.1.f1.f0), .p (.int .i64 r37.1.f1.f1)]], ?_⟩
              simp -implicitDefEqProofs only [go_sem, he0, le0, qe0, pe0, gi11, i11, c21, hv22, hv23, gi28, i28, c35, gi46, i46]
          · cases h
            simp -implicitDefEqProofs only [go_sem, he0, le0, qe0, pe0, gi11, i11, c21, hv22, hv23, gi28, i28, c35]
            rw [hR34]
            refine ⟨[], ?_⟩
            simp -implicitDefEqProofs only [go_sem, he0, le0, qe0, pe0, gi11, i11, c21, hv22, hv23, gi28, i28, c35]
        · replace h := h; clear hz
          rintro s i
          rw [hR34] at i
          obtain ⟨j33, gi47, i47⟩ := i
          clear hR34
          try dsimp only at h
          cases h
          simp -implicitDefEqProofs only [go_sem, he0, le0, qe0, pe0, gi11, i11, c21, hv22, hv23, gi28, i28, gi47, i47]
          rw [hI11]
          simp -implicitDefEqProofs only [go_sem, he0, le0, qe0, pe0, gi11, i11, c21, hv22, hv23, gi28, i28, gi47, i47]
    · cases h
      simp -implicitDefEqProofs only [go_sem, he0, le0, qe0, pe0, gi11, i11, c21]
      rw [hR11]
      first | refine ⟨rfl, ?_⟩ | refine ⟨(), rfl, ?_⟩
      simp -implicitDefEqProofs only [go_sem, he0, le0, qe0, pe0, gi11, i11, c21]
  · clear hL11 hI11
    intro e s hr11
    rw [hR11] at hr11
    clear hR11
    rcases z11 with ⟨v17, v18, v19, v20⟩
    try dsimp only at h hr11
    obtain ⟨rfl, gi48, i48⟩ := hr11
    cases h
    subst hQ
    simp -implicitDefEqProofs only [go_sem, he0, le0, qe0, pe0, gi48, i48, Try.results37]
theorem m_bound_engine_divide_ev (a0 : TBound_engine) (a1 : TRow) (a2 : TRat) (r0 : TRow × TBound_engine) (h : m_bound_engine_divide a0 a1 a2 = some r0) (d : Nat) (G : Heap) (e0 t0 : Nat) (he0 : e0 ≤ d) (hGt0 : G e0 t0 = [.box [.p (.bool a0.f0)]]) : Tel Try.prog TB d 70 [.bp (e0, t0, 0) 0, .agg ((cTRow a1).map .p), .agg ((cTRat a2).map .p)] G (.agg ((cTRow r0.1).map .p)) (fillKey (G) e0 t0 ([.box [.p (.bool r0.2.f0)]])) := by
  unfold m_bound_engine_divide at h
  refine Tel.intro mix Try.func70 rfl (Nat.le_of_ble_eq_true rfl) {openAt := fun t => t == 21 || t == 34, frzAt := fun t => t == 18 || t == 31} (by kernel_rfl) (by kernel_rfl) ?_
  have le0 : (e0 ≤ d + 1) = True := by simp; omega
  have qe0 : (e0 = d + 1) = False := by simp; omega
  have pe0 : (d + 1 = e0) = False := by simp; omega
  refine gwp_heap (H' := fillKey (cut d G) e0 t0 [.box [.p (.bool a0.f0)]]) ?_ ?_
  · rw [fill_self (B := cut d G) (a := e0) (b := t0) (by rw [cut_app, if_pos he0]; exact hGt0)]
  generalize hQ : callPost _ _ _ _ _ = Q
  simp -implicitDefEqProofs only [go_sem, he0, le0, qe0, pe0]
  obtain ⟨v1, hz, h⟩ := bs h
  obtain ⟨R2, hR2⟩ : ∃ R : St → Prop, R = fun s => s.G = fillKey (fillKey (fillKey (fillKey (cut d G) e0 t0 [.box [.p (.bool a0.f0)]]) (d + 1) 4 [.box [.p (.int .i64 a1.f0), .p (.sl (a1.f1.f0.map cTRat)), .p (.int .i64 a1.f1.f1.f0), .p (.int .i64 a1.f1.f1.f1)]]) (d + 1) 5 [.box [.p (.int .i64 v1), .p (.int .i64 a2.f1)]]) (d + 1) 6 [.box [.p (.int .i64 0), .csl [], .p (.int .i64 0), .p (.int .i64 0)]] ∧ s.F 0 = .bp (e0, t0, 0) 0 ∧ s.F 4 = .bp (d + 1, 4, 0) 0 ∧ s.F 5 = .bp (d + 1, 5, 0) 0 ∧ s.F 6 = .bp (d + 1, 6, 0) 0 ∧ True := ⟨_, rfl⟩
  refine cutG R2 ?_ ?_
  · replace h := hz
    rcases ib h with ⟨c3, h⟩ | ⟨c3, h⟩
    · cases h
      simp -implicitDefEqProofs only [go_sem, he0, le0, qe0, pe0, c3]
      rw [hR2]
      simp -implicitDefEqProofs only [go_sem, he0, le0, qe0, pe0, c3]
    · cases h
      simp -implicitDefEqProofs only [go_sem, he0, le0, qe0, pe0, c3]
      rw [hR2]
      simp -implicitDefEqProofs only [go_sem, he0, le0, qe0, pe0, c3]
  · replace h := h; clear hz
    rintro s i
    rw [hR2] at i
    obtain ⟨gi4, i4⟩ := i
    clear hR2
    try dsimp only at h
    obtain ⟨r5, hr5, h⟩ := bs h
    simp -implicitDefEqProofs only [go_sem, he0, le0, qe0, pe0, gi4, i4]
    refine call_frz (r' := .tup [.agg [.p (.int .i64 r5.1.f0), .p (.int .i64 r5.1.f1)], .p (.int .i64 r5.2)]) (m_rat_Div_ev (⟨1, 1⟩ : TRat) (⟨v1, a2.f1⟩ : TRat) r5 hr5 (d + 1) empty) (by simp -implicitDefEqProofs only [go_sem, he0, le0, qe0, pe0, gi4, i4]) rfl (by simp -implicitDefEqProofs only [go_sem]) (by simp -implicitDefEqProofs only [go_sem]) ?_ rfl rfl
    obtain ⟨r6, hr6, h⟩ := bs h
    simp -implicitDefEqProofs only [go_sem, he0, le0, qe0, pe0, gi4, i4]
    refine call_open0 (t0 := 999) (r := .agg [.p (.int .i64 r6.1.f0), .p (.int .i64 r6.1.f1)]) (m_bound_engine_rat_ev a0 r5.1 r5.2 r6 hr6 (d + 1) _ e0 t0 (Nat.le_succ_of_le he0) (by simp -implicitDefEqProofs only [go_sem, he0, le0, qe0, pe0, gi4, i4]) ) (by simp -implicitDefEqProofs only [go_sem, he0, le0, qe0, pe0, gi4, i4]) rfl (by simp -implicitDefEqProofs only [go_sem, he0, le0, qe0, pe0, gi4, i4]) (by simp -implicitDefEqProofs only [go_sem, he0, le0, qe0, pe0, gi4, i4]) (by simp -implicitDefEqProofs only [go_sem]) ?_
    rcases ib h with ⟨c7, h⟩ | ⟨c7, h⟩
    · obtain ⟨r8, hr8, h⟩ := bs h
      simp -implicitDefEqProofs only [go_sem, he0, le0, qe0, pe0, gi4, i4, c7]
      refine call_frz (r' := .tup [.agg [.p (.sl (r8.1.f0.map cTRat)), .p (.int .i64 r8.1.f1.f0), .p (.int .i64 r8.1.f1.f1)], .p (.int .i64 r8.2)]) (m_term_Scale_ev a1.f1 r6.1 r8 hr8 (d + 1) empty) (by simp -implicitDefEqProofs only [go_sem, he0, le0, qe0, pe0, gi4, i4, c7]) rfl (by simp -implicitDefEqProofs only [go_sem]) (by simp -implicitDefEqProofs only [go_sem]) ?_ rfl rfl
      obtain ⟨r9, hr9, h⟩ := bs h
      simp -implicitDefEqProofs only [go_sem, he0, le0, qe0, pe0, gi4, i4, c7]
      refine call_open0 (t0 := 999) (r := .agg [.p (.sl (r9.1.f0.map cTRat)), .p (.int .i64 r9.1.f1.f0), .p (.int .i64 r9.1.f1.f1)]) (m_bound_engine_term_ev r6.2 r8.1 r8.2 r9 hr9 (d + 1) _ e0 t0 (Nat.le_succ_of_le he0) (by simp -implicitDefEqProofs only [go_sem, he0, le0, qe0, pe0, gi4, i4, c7]) ) (by simp -implicitDefEqProofs only [go_sem, he0, le0, qe0, pe0, gi4, i4, c7]) rfl (by simp -implicitDefEqProofs only [go_sem, he0, le0, qe0, pe0, gi4, i4, c7]) (by simp -implicitDefEqProofs only [go_sem, he0, le0, qe0, pe0, gi4, i4, c7]) (by simp -implicitDefEqProofs only [go_sem]) ?_
      cases h
      subst hQ
      simp -implicitDefEqProofs only [go_sem, he0, le0, qe0, pe0, gi4, i4, c7, Try.results70]
    · cases h
      subst hQ
      simp -implicitDefEqProofs only [go_sem, he0, le0, qe0, pe0, gi4, i4, c7, Try.results70]
theorem m_bound_engine_drop_ev (a0 : TBound_engine) (a1 : List TRow) (a2 : Int) (r0 : TBound_stage × (List TRow) × TBound_engine) (h : m_bound_engine_drop a0 a1 a2 = some r0) (d : Nat) (G : Heap) (e0 t0 : Nat) (he0 : e0 ≤ d) (hGt0 : G e0 t0 = [.box [.p (.bool a0.f0)]]) : Tel Try.prog TB d 39 [.bp (e0, t0, 0) 0, .p (.sl (a1.map cTRow)), .p (.int .i64 a2)] G (.tup [.agg ((cTBound_stage r0.1).map .p), .p (.sl (r0.2.1.map cTRow))]) (fillKey (G) e0 t0 ([.box [.p (.bool r0.2.2.f0)]])) := by
  unfold m_bound_engine_drop at h
  refine Tel.intro mix Try.func39 rfl (Nat.le_of_ble_eq_true rfl) {openAt := fun t => t == 40 || t == 53 || t == 107, drwAt := fun t => t == 40 || t == 53 || t == 107, frzAt := fun t => t == 26 || t == 104, watch := fun t => if t = 40 then [35] else if t = 53 then [48] else if t = 107 then [94, 96] else [], wkey := fun t => if t = 35 then some ((d + 1, 8, 0), 0) else if t = 48 then some ((d + 1, 8, 0), 1) else if t = 94 then some ((d + 1, 14, 0), 0) else if t = 96 then some ((d + 1, 16, 0), 0) else none, boxAt := fun t => if t = 11 then some 11 else if t = 12 then some 12 else if t = 35 then some 8 else if t = 43 then some 8 else if t = 48 then some 8 else if t = 56 then some 8 else if t = 94 then some 14 else if t = 96 then some 16 else if t = 100 then some 14 else if t = 102 then some 16 else if t = 1000042 then some 42 else if t = 1000055 then some 55 else none, clean := fun r => if r = 4 then [11, 12] else if r = 17 then [14, 16] else if r = 20 then [16] else []} (by kernel_rfl) (by kernel_rfl) ?_
  have le0 : (e0 ≤ d + 1) = True := by simp; omega
  have qe0 : (e0 = d + 1) = False := by simp; omega
  have pe0 : (d + 1 = e0) = False := by simp; omega
  refine gwp_heap (H' := fillKey (cut d G) e0 t0 [.box [.p (.bool a0.f0)]]) ?_ ?_
  · rw [fill_self (B := cut d G) (a := e0) (b := t0) (by rw [cut_app, if_pos he0]; exact hGt0)]
  generalize hQ : callPost _ _ _ _ _ = Q
  simp -implicitDefEqProofs only [go_sem, he0, le0, qe0, pe0]
  obtain ⟨z17, hL17, h⟩ := bs h
  obtain ⟨I17, hI17⟩ : ∃ I : ((List TRow) × Int × Bool × (List TRow) × (List TRow)) → St → Prop, I = fun a s => match a with | (v18, v20, v21, v22, v24) => ∃ o19 o23 o25, s.G = fillKey (fillKey (fillKey (fillKey (fillKey (fillKey (cut d G) e0 t0 [.box [.p (.bool v21)]]) (d + 1) 6 [.box [.csl [], .csl []]]) (d + 1) 8 [.box [growV o23 (d + 1) (v22.map cTRow), growV o25 (d + 1) (v24.map cTRow)]]) (d + 1) 30 (growO o19 30 4 (v18.map cTRow))) (d + 1) 42 (growO o23 42 4 (v22.map cTRow))) (d + 1) 55 (growO o25 55 4 (v24.map cTRow)) ∧ growOK o19 [30] ∧ growOK o23 [42] ∧ growOK o25 [55] ∧ s.F 0 = .bp (e0, t0, 0) 0 ∧ s.F 2 = .p (.int .i64 a2) ∧ s.F 6 = .bp (d + 1, 6, 0) 0 ∧ s.F 8 = .bp (d + 1, 8, 0) 0 ∧ s.F 9 = growV o19 (d + 1) (v18.map cTRow) ∧ s.F 17 = .p (.sl (a1.map cTRow)) ∧ s.F 18 = .p (.int .i64 (a1.length : Int)) ∧ s.F 19 = .p (.int .i64 v20) ∧ True := ⟨_, rfl⟩
  obtain ⟨R17, hR17⟩ : ∃ R : ((List TRow) × Bool × (List TRow) × (List TRow)) → GE → St → Prop, R = fun x e s => match x with | (v26, v28, v29, v31) => e = .exit 0 ∧ (∃ o27 o30 o32, s.G = fillKey (fillKey (fillKey (fillKey (fillKey (fillKey (cut d G) e0 t0 [.box [.p (.bool v28)]]) (d + 1) 6 [.box [.csl [], .csl []]]) (d + 1) 8 [.box [growV o30 (d + 1) (v29.map cTRow), growV o32 (d + 1) (v31.map cTRow)]]) (d + 1) 30 (growO o27 30 4 (v26.map cTRow))) (d + 1) 42 (growO o30 42 4 (v29.map cTRow))) (d + 1) 55 (growO o32 55 4 (v31.map cTRow)) ∧ growOK o27 [30] ∧ growOK o30 [42] ∧ growOK o32 [55] ∧ s.F 0 = .bp (e0, t0, 0) 0 ∧ s.F 6 = .bp (d + 1, 6, 0) 0 ∧ s.F 8 = .bp (d + 1, 8, 0) 0 ∧ s.F 9 = growV o27 (d + 1) (v26.map cTRow) ∧ True) := ⟨_, rfl⟩
  refine lp (ts := [11, 12]) rfl hL17 I17 R17 ?_ ?_ ?_
  · rw [hI17]
    refine ⟨none, none, none, ?_⟩
    simp -implicitDefEqProofs only [go_sem, he0, le0, qe0, pe0]
  · clear h hL17
    rintro ⟨v18, v20, v21, v22, v24⟩ y s h i
    rw [hI17] at i
    obtain ⟨o19, o23, o25, gi17, ko19, ko23, ko25, i17⟩ := i
    replace h : m_bound_engine_drop_L0 a1 a2 (v18, v20, v21, v22, v24) = some y := h
    unfold m_bound_engine_drop_L0 at h
    rcases ib h with ⟨c33, h⟩ | ⟨c33, h⟩
    · obtain ⟨v34, hv34, h⟩ := bs h
      replace hv34 := gis hv34
      obtain ⟨r35, hr35, h⟩ := bs h
      simp -implicitDefEqProofs only [go_sem, he0, le0, qe0, pe0, gi17, ko19, ko23, ko25, i17, c33, hv34]
      refine call_frz (r' := .agg [.p (.int .i64 r35.f0), .p (.int .i64 r35.f1)]) (m_term_At_ev v34.f1 a2 r35 hr35 (d + 1) empty) (by simp -implicitDefEqProofs only [go_sem, he0, le0, qe0, pe0, gi17, ko19, ko23, ko25, i17, c33, hv34]) rfl (by simp -implicitDefEqProofs only [go_sem]) (by simp -implicitDefEqProofs only [go_sem]) ?_ rfl rfl
      simp -implicitDefEqProofs only [go_sem, he0, le0, qe0, pe0, gi17, ko19, ko23, ko25, i17, c33, hv34]
      obtain ⟨⟨v36, v38, v39, v41⟩, hz, h⟩ := bs h
      obtain ⟨R43, hR43⟩ : ∃ R : St → Prop, R = fun s => ∃ o37 o40 o42, s.G = fillKey (fillKey (fillKey (fillKey (fillKey (fillKey (fillKey (fillKey (cut d G) e0 t0 [.box [.p (.bool v38)]]) (d + 1) 6 [.box [.csl [], .csl []]]) (d + 1) 8 [.box [growV o40 (d + 1) (v39.map cTRow), growV o42 (d + 1) (v41.map cTRow)]]) (d + 1) 11 [.box [.p (.int .i64 v34.f0), .p (.sl (v34.f1.f0.map cTRat)), .p (.int .i64 v34.f1.f1.f0), .p (.int .i64 v34.f1.f1.f1)]]) (d + 1) 12 [.box [.p (.int .i64 r35.f0), .p (.int .i64 r35.f1)]]) (d + 1) 30 (growO o37 30 4 (v36.map cTRow))) (d + 1) 42 (growO o40 42 4 (v39.map cTRow))) (d + 1) 55 (growO o42 55 4 (v41.map cTRow)) ∧ growOK o37 [30] ∧ growOK o40 [42] ∧ growOK o42 [55] ∧ s.F 0 = .bp (e0, t0, 0) 0 ∧ s.F 2 = .p (.int .i64 a2) ∧ s.F 6 = .bp (d + 1, 6, 0) 0 ∧ s.F 8 = .bp (d + 1, 8, 0) 0 ∧ s.F 9 = growV o37 (d + 1) (v36.map cTRow) ∧ s.F 17 = .p (.sl (a1.map cTRow)) ∧ s.F 18 = .p (.int .i64 (a1.length : Int)) ∧ s.F 19 = .p (.int .i64 v20) ∧ True := ⟨_, rfl⟩
      refine cutG R43 ?_ ?_
      · replace h := hz
        rcases ib h with ⟨c44, h⟩ | ⟨c44, h⟩
        · obtain ⟨r45, hr45, h⟩ := bs h
          simp -implicitDefEqProofs only [go_sem, he0, le0, qe0, pe0, gi17, ko19, ko23, ko25, i17, c33, hv34, c44]
          refine call_drwL (t0 := 999) (r := .agg [.p (.int .i64 r45.1.f0), .p (.sl (r45.1.f1.f0.map cTRat)), .p (.int .i64 r45.1.f1.f1.f0), .p (.int .i64 r45.1.f1.f1.f1)]) [(e0, t0, [.box [.p (.bool r45.2.f0)]])] (fun H => m_bound_engine_divide_ev (⟨v21⟩ : TBound_engine) v34 r35 r45 hr45 (d + 1) _ e0 t0 (Nat.le_succ_of_le he0) (by simp -implicitDefEqProofs only [go_sem, he0, le0, qe0, pe0, gi17, ko19, ko23, ko25, i17, c33, hv34, c44]) ) (by simp -implicitDefEqProofs only [go_sem, he0, le0, qe0, pe0, gi17, ko19, ko23, ko25, i17, c33, hv34, c44]) rfl (by simp -implicitDefEqProofs only [go_sem, he0, le0, qe0, pe0, gi17, ko19, ko23, ko25, i17, c33, hv34, c44]) (by simp -implicitDefEqProofs only [go_sem, he0, le0, qe0, pe0, gi17, ko19, ko23, ko25, i17, c33, hv34, c44]) (by simp -implicitDefEqProofs only [go_sem]) (by simp -implicitDefEqProofs only [go_sem, he0, le0, qe0, pe0, gi17, ko19, ko23, ko25, i17, c33, hv34, c44]) (by simp -implicitDefEqProofs only [go_sem, he0, le0, qe0, pe0, gi17, ko19, ko23, ko25, i17, c33, hv34, c44]) (fun x hx => by simp only [go_sem, reduceIte, Nat.reduceEqDiff, List.mem_cons, List.not_mem_nil, or_false] at hx; rcases hx with rfl <;> first | exact ⟨(d + 1, 8, 0), 0, rfl, by simp -implicitDefEqProofs only [go_sem, he0, le0, qe0, pe0, gi17, ko19, ko23, ko25, i17, c33, hv34, c44], [growV o23 (d + 1) (v22.map cTRow), growV o25 (d + 1) (v24.map cTRow)], [growV o23 (d + 1) (v22.map cTRow), growV o25 (d + 1) (v24.map cTRow)], by simp -implicitDefEqProofs only [go_sem, he0, le0, qe0, pe0, gi17, ko19, ko23, ko25, i17, c33, hv34, c44], by simp -implicitDefEqProofs only [go_sem, he0, le0, qe0, pe0, gi17, ko19, ko23, ko25, i17, c33, hv34, c44], by simp -implicitDefEqProofs only [go_sem, he0, le0, qe0, pe0, gi17, ko19, ko23, ko25, i17, c33, hv34, c44]⟩) (by simp -implicitDefEqProofs only [go_sem]) ?_
          obtain ⟨_, c46, h⟩ := bs h
          replace c46 := rqs c46
          simp -implicitDefEqProofs only [go_sem, he0, le0, qe0, pe0, gi17, ko19, ko23, ko25, i17, c33, hv34, c44, c46, appG_grow (k := 42) ko23, appG_grow_p (k := 42) ko23]
          refine append_G (o := o23) (ts := [42]) (es := (v22 : List TRow).map cTRow) (xs := ([r45.1] : List TRow).map cTRow) (ho := growOK.sub ko23 (by decide)) (hG := by simp -implicitDefEqProofs only [go_sem, he0, le0, qe0, pe0, gi17, ko19, ko23, ko25, i17, c33, hv34, c44, c46]) (hj := by simp -implicitDefEqProofs only [go_sem]) (he := el22) (hx := by simp -implicitDefEqProofs only [go_sem, he0, le0, qe0, pe0, gi17, ko19, ko23, ko25, i17, c33, hv34, c44, c46]) (h1 := by simp -implicitDefEqProofs only [go_sem]) (h2 := by simp -implicitDefEqProofs only [go_sem]) (ha := rfl) (hra := rfl) (hb := by simpa using c46) (hbb := by decide) ?_
          intro o47 ko47
          cases h
          simp -implicitDefEqProofs only [go_sem, he0, le0, qe0, pe0, gi17, ko19, ko23, ko25, i17, c33, hv34, c44, c46, ko47]
          rw [hR43]
          refine ⟨o19, o47, o25, ?_⟩
          simp -implicitDefEqProofs only [go_sem, he0, le0, qe0, pe0, gi17, ko19, ko23, ko25, i17, c33, hv34, c44, c46, ko47]
        · simp -implicitDefEqProofs only [go_sem, he0, le0, qe0, pe0, gi17, ko19, ko23, ko25, i17, c33, hv34, c44]
          obtain ⟨⟨v48, v50, v51⟩, hz, h⟩ := bs h
          obtain ⟨R53, hR53⟩ : ∃ R : St → Prop, R = fun s => ∃ o49 o52, s.G = fillKey (fillKey (fillKey (fillKey (fillKey (fillKey (fillKey (fillKey (cut d G) e0 t0 [.box [.p (.bool v50)]]) (d + 1) 6 [.box [.csl [], .csl []]]) (d + 1) 8 [.box [growV o23 (d + 1) (v22.map cTRow), growV o52 (d + 1) (v51.map cTRow)]]) (d + 1) 11 [.box [.p (.int .i64 v34.f0), .p (.sl (v34.f1.f0.map cTRat)), .p (.int .i64 v34.f1.f1.f0), .p (.int .i64 v34.f1.f1.f1)]]) (d + 1) 12 [.box [.p (.int .i64 r35.f0), .p (.int .i64 r35.f1)]]) (d + 1) 30 (growO o49 30 4 (v48.map cTRow))) (d + 1) 42 (growO o23 42 4 (v22.map cTRow))) (d + 1) 55 (growO o52 55 4 (v51.map cTRow)) ∧ growOK o49 [30] ∧ growOK o52 [55] ∧ s.F 0 = .bp (e0, t0, 0) 0 ∧ s.F 2 = .p (.int .i64 a2) ∧ s.F 6 = .bp (d + 1, 6, 0) 0 ∧ s.F 8 = .bp (d + 1, 8, 0) 0 ∧ s.F 9 = growV o49 (d + 1) (v48.map cTRow) ∧ s.F 17 = .p (.sl (a1.map cTRow)) ∧ s.F 18 = .p (.int .i64 (a1.length : Int)) ∧ s.F 19 = .p (.int .i64 v20) ∧ True := ⟨_, rfl⟩
          refine cutG R53 ?_ ?_
          · replace h := hz
            rcases ib h with ⟨c54, h⟩ | ⟨c54, h⟩
            · obtain ⟨r55, hr55, h⟩ := bs h
              simp -implicitDefEqProofs only [go_sem, he0, le0, qe0, pe0, gi17, ko19, ko23, ko25, i17, c33, hv34, c44, c54]
              refine call_drwL (t0 := 999) (r := .agg [.p (.int .i64 r55.1.f0), .p (.sl (r55.1.f1.f0.map cTRat)), .p (.int .i64 r55.1.f1.f1.f0), .p (.int .i64 r55.1.f1.f1.f1)]) [(e0, t0, [.box [.p (.bool r55.2.f0)]])] (fun H => m_bound_engine_divide_ev (⟨v21⟩ : TBound_engine) v34 r35 r55 hr55 (d + 1) _ e0 t0 (Nat.le_succ_of_le he0) (by simp -implicitDefEqProofs only [go_sem, he0, le0, qe0, pe0, gi17, ko19, ko23, ko25, i17, c33, hv34, c44, c54]) ) (by simp -implicitDefEqProofs only [go_sem, he0, le0, qe0, pe0, gi17, ko19, ko23, ko25, i17, c33, hv34, c44, c54]) rfl (by simp -implicitDefEqProofs only [go_sem, he0, le0, qe0, pe0, gi17, ko19, ko23, ko25, i17, c33, hv34, c44, c54]) (by simp -implicitDefEqProofs only [go_sem, he0, le0, qe0, pe0, gi17, ko19, ko23, ko25, i17, c33, hv34, c44, c54]) (by simp -implicitDefEqProofs only [go_sem]) (by simp -implicitDefEqProofs only [go_sem, he0, le0, qe0, pe0, gi17, ko19, ko23, ko25, i17, c33, hv34, c44, c54]) (by simp -implicitDefEqProofs only [go_sem, he0, le0, qe0, pe0, gi17, ko19, ko23, ko25, i17, c33, hv34, c44, c54]) (fun x hx => by simp only [go_sem, reduceIte, Nat.reduceEqDiff, List.mem_cons, List.not_mem_nil, or_false] at hx; rcases hx with rfl <;> first | exact ⟨(d + 1, 8, 0), 1, rfl, by simp -implicitDefEqProofs only [go_sem, he0, le0, qe0, pe0, gi17, ko19, ko23, ko25, i17, c33, hv34, c44, c54], [growV o23 (d + 1) (v22.map cTRow), growV o25 (d + 1) (v24.map cTRow)], [growV o23 (d + 1) (v22.map cTRow), growV o25 (d + 1) (v24.map cTRow)], by simp -implicitDefEqProofs only [go_sem, he0, le0, qe0, pe0, gi17, ko19, ko23, ko25, i17, c33, hv34, c44, c54], by simp -implicitDefEqProofs only [go_sem, he0, le0, qe0, pe0, gi17, ko19, ko23, ko25, i17, c33, hv34, c44, c54], by simp -implicitDefEqProofs only [go_sem, he0, le0, qe0, pe0, gi17, ko19, ko23, ko25, i17, c33, hv34, c44, c54]⟩) (by simp -implicitDefEqProofs only [go_sem]) ?_
              obtain ⟨_, c56, h⟩ := bs h
              replace c56 := rqs c56
              simp -implicitDefEqProofs only [go_sem, he0, le0, qe0, pe0, gi17, ko19, ko23, ko25, i17, c33, hv34, c44, c54, c56, appG_grow (k := 55) ko25, appG_grow_p (k := 55) ko25]
              refine append_G (o := o25) (ts := [55]) (es := (v24 : List TRow).map cTRow) (xs := ([r55.1] : List TRow).map cTRow) (ho := growOK.sub ko25 (by decide)) (hG := by simp -implicitDefEqProofs only [go_sem, he0, le0, qe0, pe0, gi17, ko19, ko23, ko25, i17, c33, hv34, c44, c54, c56]) (hj := by simp -implicitDefEqProofs only [go_sem]) (he := el22) (hx := by simp -implicitDefEqProofs only [go_sem, he0, le0, qe0, pe0, gi17, ko19, ko23, ko25, i17, c33, hv34, c44, c54, c56]) (h1 := by simp -implicitDefEqProofs only [go_sem]) (h2 := by simp -implicitDefEqProofs only [go_sem]) (ha := rfl) (hra := rfl) (hb := by simpa using c56) (hbb := by decide) ?_
              intro o57 ko57
              cases h
              simp -implicitDefEqProofs only [go_sem, he0, le0, qe0, pe0, gi17, ko19, ko23, ko25, i17, c33, hv34, c44, c54, c56, ko57]
              rw [hR53]
              refine ⟨o19, o57, ?_⟩
              simp -implicitDefEqProofs only [go_sem, he0, le0, qe0, pe0, gi17, ko19, ko23, ko25, i17, c33, hv34, c44, c54, c56, ko57]
            · obtain ⟨_, c58, h⟩ := bs h
              replace c58 := rqs c58
              simp -implicitDefEqProofs only [go_sem, he0, le0, qe0, pe0, gi17, ko19, ko23, ko25, i17, c33, hv34, c44, c54, c58]
              refine append_G (o := o19) (ts := [30]) (es := (v18 : List TRow).map cTRow) (xs := ([v34] : List TRow).map cTRow) (ho := growOK.sub ko19 (by decide)) (hG := by simp -implicitDefEqProofs only [go_sem, he0, le0, qe0, pe0, gi17, ko19, ko23, ko25, i17, c33, hv34, c44, c54, c58]) (hj := by simp -implicitDefEqProofs only [go_sem]) (he := el22) (hx := by simp -implicitDefEqProofs only [go_sem, he0, le0, qe0, pe0, gi17, ko19, ko23, ko25, i17, c33, hv34, c44, c54, c58]) (h1 := by simp -implicitDefEqProofs only [go_sem]) (h2 := by simp -implicitDefEqProofs only [go_sem]) (ha := rfl) (hra := rfl) (hb := by simpa using c58) (hbb := by decide) ?_
              intro o59 ko59
              cases h
              simp -implicitDefEqProofs only [go_sem, he0, le0, qe0, pe0, gi17, ko19, ko23, ko25, i17, c33, hv34, c44, c54, c58, ko59]
              rw [hR53]
              refine ⟨o59, o25, ?_⟩
              simp -implicitDefEqProofs only [go_sem, he0, le0, qe0, pe0, gi17, ko19, ko23, ko25, i17, c33, hv34, c44, c54, c58, ko59]
          · replace h := h; clear hz
            rintro s i
            rw [hR53] at i
            obtain ⟨o49, o52, gi60, ko49, ko52, i60⟩ := i
            clear hR53
            try dsimp only at h
            cases h
            simp -implicitDefEqProofs only [go_sem, he0, le0, qe0, pe0, gi17, ko19, ko23, ko25, i17, c33, hv34, c44, gi60, ko49, ko52, i60]
            rw [hR43]
            refine ⟨o49, o23, o52, ?_⟩
            simp -implicitDefEqProofs only [go_sem, he0, le0, qe0, pe0, gi17, ko19, ko23, ko25, i17, c33, hv34, c44, gi60, ko49, ko52, i60]
      · replace h := h; clear hz
        rintro s i
        rw [hR43] at i
        obtain ⟨o37, o40, o42, gi61, ko37, ko40, ko42, i61⟩ := i
        clear hR43
        try dsimp only at h
        cases h
        simp -implicitDefEqProofs only [go_sem, he0, le0, qe0, pe0, gi17, ko19, ko23, ko25, i17, c33, hv34, gi61, ko37, ko40, ko42, i61]
        rw [hI17]
        refine ⟨o37, o40, o42, ?_⟩
        simp -implicitDefEqProofs only [go_sem, he0, le0, qe0, pe0, gi17, ko19, ko23, ko25, i17, c33, hv34, gi61, ko37, ko40, ko42, i61, poison_grow (d := d + 1) (ts := [11, 12]) ko37 (by decide), poison_grow (d := d + 1) (ts := [11, 12]) ko40 (by decide), poison_grow (d := d + 1) (ts := [11, 12]) ko42 (by decide)]
    · cases h
      simp -implicitDefEqProofs only [go_sem, he0, le0, qe0, pe0, gi17, ko19, ko23, ko25, i17, c33]
      rw [hR17]
      first | refine ⟨rfl, o19, o23, o25, ?_⟩ | refine ⟨(), rfl, o19, o23, o25, ?_⟩
      simp -implicitDefEqProofs only [go_sem, he0, le0, qe0, pe0, gi17, ko19, ko23, ko25, i17, c33]
  · clear hL17 hI17
    intro e s hr17
    rw [hR17] at hr17
    clear hR17
    rcases z17 with ⟨v26, v28, v29, v31⟩
    try dsimp only at h hr17
    obtain ⟨rfl, o27, o30, o32, gi62, ko27, ko30, ko32, i62⟩ := hr17
    simp -implicitDefEqProofs only [go_sem, he0, le0, qe0, pe0, gi62, ko27, ko30, ko32, i62]
    obtain ⟨v63, hz, h⟩ := bs h
    obtain ⟨R64, hR64⟩ : ∃ R : St → Prop, R = fun s => s.G = fillKey (fillKey (fillKey (fillKey (fillKey (fillKey (cut d G) e0 t0 [.box [.p (.bool v28)]]) (d + 1) 6 [.box [.csl [], .csl []]]) (d + 1) 8 [.box [growV o30 (d + 1) (v29.map cTRow), growV o32 (d + 1) (v31.map cTRow)]]) (d + 1) 30 (growO o27 30 4 (v26.map cTRow))) (d + 1) 42 (growO o30 42 4 (v29.map cTRow))) (d + 1) 55 (growO o32 55 4 (v31.map cTRow)) ∧ s.F 0 = .bp (e0, t0, 0) 0 ∧ s.F 6 = .bp (d + 1, 6, 0) 0 ∧ s.F 8 = .bp (d + 1, 8, 0) 0 ∧ s.F 9 = growV o27 (d + 1) (v26.map cTRow) ∧ s.F 74 = .p (.bool v63) ∧ True := ⟨_, rfl⟩
    refine cutR R64 ?_ ?_
    · replace h := hz
      rcases ib h with ⟨c65, h⟩ | ⟨c65, h⟩
      · cases h
        simp -implicitDefEqProofs only [go_sem, he0, le0, qe0, pe0, gi62, ko27, ko30, ko32, i62, c65]
        rw [hR64]
        simp -implicitDefEqProofs only [go_sem, he0, le0, qe0, pe0, gi62, ko27, ko30, ko32, i62, c65]
      · cases h
        simp -implicitDefEqProofs only [go_sem, he0, le0, qe0, pe0, gi62, ko27, ko30, ko32, i62, c65]
        rw [hR64]
        simp -implicitDefEqProofs only [go_sem, he0, le0, qe0, pe0, gi62, ko27, ko30, ko32, i62, c65]
    · replace h := h; clear hz
      rintro s i
      rw [hR64] at i
      obtain ⟨gi66, i66⟩ := i
      clear hR64
      try dsimp only at h
      rcases ib h with ⟨c67, h⟩ | ⟨c67, h⟩
      · cases h
        subst hQ
        simp -implicitDefEqProofs only [go_sem, he0, le0, qe0, pe0, gi62, ko27, ko30, ko32, i62, gi66, i66, c67, Try.results39]
      · simp -implicitDefEqProofs only [go_sem, he0, le0, qe0, pe0, gi62, ko27, ko30, ko32, i62, gi66, i66, c67]
        obtain ⟨z76, hL76, h⟩ := bs h
        obtain ⟨I76, hI76⟩ : ∃ I : ((List TRow) × Int × Bool) → St → Prop, I = fun a s => match a with | (v77, v79, v80) => ∃ o78, s.G = fillKey (fillKey (fillKey (fillKey (fillKey (fillKey (fillKey (cut d G) e0 t0 [.box [.p (.bool v80)]]) (d + 1) 6 [.box [.csl [], .csl []]]) (d + 1) 8 [.box [growV o30 (d + 1) (v29.map cTRow), growV o32 (d + 1) (v31.map cTRow)]]) (d + 1) 30 (growO o78 30 4 (v77.map cTRow))) (d + 1) 42 (growO o30 42 4 (v29.map cTRow))) (d + 1) 55 (growO o32 55 4 (v31.map cTRow))) (d + 1) 110 (growO o78 110 4 (v77.map cTRow)) ∧ growOK o78 [30, 110] ∧ s.F 0 = .bp (e0, t0, 0) 0 ∧ s.F 6 = .bp (d + 1, 6, 0) 0 ∧ s.F 8 = .bp (d + 1, 8, 0) 0 ∧ s.F 9 = growV o78 (d + 1) (v77.map cTRow) ∧ s.F 80 = growV o30 (d + 1) (v29.map cTRow) ∧ s.F 81 = .p (.int .i64 (v29.length : Int)) ∧ s.F 82 = .p (.int .i64 v79) ∧ True := ⟨_, rfl⟩
        obtain ⟨R76, hR76⟩ : ∃ R : ((List TRow) × Bool) → GE → St → Prop, R = fun x e s => match x with | (v81, v83) => e = .exit 3 ∧ (∃ o82, s.G = fillKey (fillKey (fillKey (fillKey (fillKey (fillKey (fillKey (cut d G) e0 t0 [.box [.p (.bool v83)]]) (d + 1) 6 [.box [.csl [], .csl []]]) (d + 1) 8 [.box [growV o30 (d + 1) (v29.map cTRow), growV o32 (d + 1) (v31.map cTRow)]]) (d + 1) 30 (growO o82 30 4 (v81.map cTRow))) (d + 1) 42 (growO o30 42 4 (v29.map cTRow))) (d + 1) 55 (growO o32 55 4 (v31.map cTRow))) (d + 1) 110 (growO o82 110 4 (v81.map cTRow)) ∧ growOK o82 [30, 110] ∧ s.F 6 = .bp (d + 1, 6, 0) 0 ∧ s.F 8 = .bp (d + 1, 8, 0) 0 ∧ s.F 9 = growV o82 (d + 1) (v81.map cTRow) ∧ True) := ⟨_, rfl⟩
        refine lp (ts := [14, 16]) rfl hL76 I76 R76 ?_ ?_ ?_
        · rw [hI76]
          refine ⟨o27, ?_⟩
          simp -implicitDefEqProofs only [go_sem, he0, le0, qe0, pe0, gi62, ko27, ko30, ko32, i62, gi66, i66, c67, poison_grow (d := d + 1) (ts := [14, 16]) ko27 (by decide), poison_grow (d := d + 1) (ts := [14, 16]) ko30 (by decide), poison_grow (d := d + 1) (ts := [14, 16]) ko32 (by decide), growO_out (t := 110) ko27 (by decide), growOK_eq (ts' := [30, 110]) ko27 (by decide)]
        · clear h hL76
          rintro ⟨v77, v79, v80⟩ y s h i
          rw [hI76] at i
          obtain ⟨o78, gi76, ko78, i76⟩ := i
          replace h : m_bound_engine_drop_L1 v29 v31 (v77, v79, v80) = some y := h
          unfold m_bound_engine_drop_L1 at h
          rcases ib h with ⟨c84, h⟩ | ⟨c84, h⟩
          · obtain ⟨v85, hv85, h⟩ := bs h
            replace hv85 := gis hv85
            simp -implicitDefEqProofs only [go_sem, he0, le0, qe0, pe0, gi62, ko27, ko30, ko32, i62, gi66, i66, c67, gi76, ko78, i76, c84, hv85]
            obtain ⟨z94, hL94, h⟩ := bs h
            obtain ⟨I94, hI94⟩ : ∃ I : ((List TRow) × Int × Bool) → St → Prop, I = fun a s => match a with | (v95, v97, v98) => ∃ o96, s.G = fillKey (fillKey (fillKey (fillKey (fillKey (fillKey (fillKey (fillKey (cut d G) e0 t0 [.box [.p (.bool v98)]]) (d + 1) 6 [.box [.csl [], .csl []]]) (d + 1) 8 [.box [growV o30 (d + 1) (v29.map cTRow), growV o32 (d + 1) (v31.map cTRow)]]) (d + 1) 14 [.box [.p (.int .i64 v85.f0), .p (.sl (v85.f1.f0.map cTRat)), .p (.int .i64 v85.f1.f1.f0), .p (.int .i64 v85.f1.f1.f1)]]) (d + 1) 30 (growO o96 30 4 (v95.map cTRow))) (d + 1) 42 (growO o30 42 4 (v29.map cTRow))) (d + 1) 55 (growO o32 55 4 (v31.map cTRow))) (d + 1) 110 (growO o96 110 4 (v95.map cTRow)) ∧ growOK o96 [30, 110] ∧ s.F 0 = .bp (e0, t0, 0) 0 ∧ s.F 6 = .bp (d + 1, 6, 0) 0 ∧ s.F 8 = .bp (d + 1, 8, 0) 0 ∧ s.F 9 = growV o96 (d + 1) (v95.map cTRow) ∧ s.F 14 = .bp (d + 1, 14, 0) 0 ∧ s.F 80 = growV o30 (d + 1) (v29.map cTRow) ∧ s.F 81 = .p (.int .i64 (v29.length : Int)) ∧ s.F 82 = .p (.int .i64 v79) ∧ s.F 87 = growV o32 (d + 1) (v31.map cTRow) ∧ s.F 88 = .p (.int .i64 (v31.length : Int)) ∧ s.F 89 = .p (.int .i64 v97) ∧ True := ⟨_, rfl⟩
            obtain ⟨R94, hR94⟩ : ∃ R : ((List TRow) × Bool) → GE → St → Prop, R = fun x e s => match x with | (v99, v101) => e = .exit 5 ∧ (∃ o100, s.G = fillKey (fillKey (fillKey (fillKey (fillKey (fillKey (fillKey (fillKey (cut d G) e0 t0 [.box [.p (.bool v101)]]) (d + 1) 6 [.box [.csl [], .csl []]]) (d + 1) 8 [.box [growV o30 (d + 1) (v29.map cTRow), growV o32 (d + 1) (v31.map cTRow)]]) (d + 1) 14 [.box [.p (.int .i64 v85.f0), .p (.sl (v85.f1.f0.map cTRat)), .p (.int .i64 v85.f1.f1.f0), .p (.int .i64 v85.f1.f1.f1)]]) (d + 1) 30 (growO o100 30 4 (v99.map cTRow))) (d + 1) 42 (growO o30 42 4 (v29.map cTRow))) (d + 1) 55 (growO o32 55 4 (v31.map cTRow))) (d + 1) 110 (growO o100 110 4 (v99.map cTRow)) ∧ growOK o100 [30, 110] ∧ s.F 0 = .bp (e0, t0, 0) 0 ∧ s.F 6 = .bp (d + 1, 6, 0) 0 ∧ s.F 8 = .bp (d + 1, 8, 0) 0 ∧ s.F 9 = growV o100 (d + 1) (v99.map cTRow) ∧ s.F 80 = growV o30 (d + 1) (v29.map cTRow) ∧ s.F 81 = .p (.int .i64 (v29.length : Int)) ∧ s.F 82 = .p (.int .i64 v79) ∧ True) := ⟨_, rfl⟩
            refine lp (ts := [16]) rfl hL94 I94 R94 ?_ ?_ ?_
            · rw [hI94]
              refine ⟨o78, ?_⟩
              simp -implicitDefEqProofs only [go_sem, he0, le0, qe0, pe0, gi62, ko27, ko30, ko32, i62, gi66, i66, c67, gi76, ko78, i76, c84, hv85, poison_grow (d := d + 1) (ts := [16]) ko78 (by decide), poison_grow (d := d + 1) (ts := [16]) ko30 (by decide), poison_grow (d := d + 1) (ts := [16]) ko32 (by decide)]
            · clear h hL94
              rintro ⟨v95, v97, v98⟩ y s h i
              rw [hI94] at i
              obtain ⟨o96, gi94, ko96, i94⟩ := i
              replace h : m_bound_engine_drop_L2 v31 v85 (v95, v97, v98) = some y := h
              unfold m_bound_engine_drop_L2 at h
              rcases ib h with ⟨c102, h⟩ | ⟨c102, h⟩
              · obtain ⟨v103, hv103, h⟩ := bs h
                replace hv103 := gis hv103
                obtain ⟨r104, hr104, h⟩ := bs h
                simp -implicitDefEqProofs only [go_sem, he0, le0, qe0, pe0, gi62, ko27, ko30, ko32, i62, gi66, i66, c67, gi76, ko78, i76, c84, hv85, gi94, ko96, i94, c102, hv103]
                refine call_frz (r' := .tup [.agg [.p (.sl (r104.1.f0.map cTRat)), .p (.int .i64 r104.1.f1.f0), .p (.int .i64 r104.1.f1.f1)], .p (.int .i64 r104.2)]) (m_term_Add_ev v85.f1 v103.f1 r104 hr104 (d + 1) empty) (by simp -implicitDefEqProofs only [go_sem, he0, le0, qe0, pe0, gi62, ko27, ko30, ko32, i62, gi66, i66, c67, gi76, ko78, i76, c84, hv85, gi94, ko96, i94, c102, hv103]) rfl (by simp -implicitDefEqProofs only [go_sem]) (by simp -implicitDefEqProofs only [go_sem]) ?_ rfl rfl
                obtain ⟨r105, hr105, h⟩ := bs h
                simp -implicitDefEqProofs only [go_sem, he0, le0, qe0, pe0, gi62, ko27, ko30, ko32, i62, gi66, i66, c67, gi76, ko78, i76, c84, hv85, gi94, ko96, i94, c102, hv103]
                refine call_drwL (t0 := 999) (r := .agg [.p (.sl (r105.1.f0.map cTRat)), .p (.int .i64 r105.1.f1.f0), .p (.int .i64 r105.1.f1.f1)]) [(e0, t0, [.box [.p (.bool r105.2.f0)]])] (fun H => m_bound_engine_term_ev (⟨v98⟩ : TBound_engine) r104.1 r104.2 r105 hr105 (d + 1) _ e0 t0 (Nat.le_succ_of_le he0) (by simp -implicitDefEqProofs only [go_sem, he0, le0, qe0, pe0, gi62, ko27, ko30, ko32, i62, gi66, i66, c67, gi76, ko78, i76, c84, hv85, gi94, ko96, i94, c102, hv103]) ) (by simp -implicitDefEqProofs only [go_sem, he0, le0, qe0, pe0, gi62, ko27, ko30, ko32, i62, gi66, i66, c67, gi76, ko78, i76, c84, hv85, gi94, ko96, i94, c102, hv103]) rfl (by simp -implicitDefEqProofs only [go_sem, he0, le0, qe0, pe0, gi62, ko27, ko30, ko32, i62, gi66, i66, c67, gi76, ko78, i76, c84, hv85, gi94, ko96, i94, c102, hv103]) (by simp -implicitDefEqProofs only [go_sem, he0, le0, qe0, pe0, gi62, ko27, ko30, ko32, i62, gi66, i66, c67, gi76, ko78, i76, c84, hv85, gi94, ko96, i94, c102, hv103]) (by simp -implicitDefEqProofs only [go_sem]) (by simp -implicitDefEqProofs only [go_sem, he0, le0, qe0, pe0, gi62, ko27, ko30, ko32, i62, gi66, i66, c67, gi76, ko78, i76, c84, hv85, gi94, ko96, i94, c102, hv103]) (by simp -implicitDefEqProofs only [go_sem, he0, le0, qe0, pe0, gi62, ko27, ko30, ko32, i62, gi66, i66, c67, gi76, ko78, i76, c84, hv85, gi94, ko96, i94, c102, hv103]) (fun x hx => by simp only [go_sem, reduceIte, Nat.reduceEqDiff, List.mem_cons, List.not_mem_nil, or_false] at hx; rcases hx with rfl | rfl <;> first | exact ⟨(d + 1, 14, 0), 0, rfl, by simp -implicitDefEqProofs only [go_sem, he0, le0, qe0, pe0, gi62, ko27, ko30, ko32, i62, gi66, i66, c67, gi76, ko78, i76, c84, hv85, gi94, ko96, i94, c102, hv103], [.p (.int .i64 v85.f0), .p (.sl (v85.f1.f0.map cTRat)), .p (.int .i64 v85.f1.f1.f0), .p (.int .i64 v85.f1.f1.f1)], [.p (.int .i64 v85.f0), .p (.sl (v85.f1.f0.map cTRat)), .p (.int .i64 v85.f1.f1.f0), .p (.int .i64 v85.f1.f1.f1)], by simp -implicitDefEqProofs only [go_sem, he0, le0, qe0, pe0, gi62, ko27, ko30, ko32, i62, gi66, i66, c67, gi76, ko78, i76, c84, hv85, gi94, ko96, i94, c102, hv103], by simp -implicitDefEqProofs only [go_sem, he0, le0, qe0, pe0, gi62, ko27, ko30, ko32, i62, gi66, i66, c67, gi76, ko78, i76, c84, hv85, gi94, ko96, i94, c102, hv103], by simp -implicitDefEqProofs only [go_sem, he0, le0, qe0, pe0, gi62, ko27, ko30, ko32, i62, gi66, i66, c67, gi76, ko78, i76, c84, hv85, gi94, ko96, i94, c102, hv103]⟩ | exact ⟨(d + 1, 16, 0), 0, rfl, by simp -implicitDefEqProofs only [go_sem, he0, le0, qe0, pe0, gi62, ko27, ko30, ko32, i62, gi66, i66, c67, gi76, ko78, i76, c84, hv85, gi94, ko96, i94, c102, hv103], [.p (.int .i64 v103.f0), .p (.sl (v103.f1.f0.map cTRat)), .p (.int .i64 v103.f1.f1.f0), .p (.int .i64 v103.f1.f1.f1)], [.p (.int .i64 v103.f0), .p (.sl (v103.f1.f0.map cTRat)), .p (.int .i64 v103.f1.f1.f0), .p (.int .i64 v103.f1.f1.f1)], by simp -implicitDefEqProofs only [go_sem, he0, le0, qe0, pe0, gi62, ko27, ko30, ko32, i62, gi66, i66, c67, gi76, ko78, i76, c84, hv85, gi94, ko96, i94, c102, hv103], by simp -implicitDefEqProofs only [go_sem, he0, le0, qe0, pe0, gi62, ko27, ko30, ko32, i62, gi66, i66, c67, gi76, ko78, i76, c84, hv85, gi94, ko96, i94, c102, hv103], by simp -implicitDefEqProofs only [go_sem, he0, le0, qe0, pe0, gi62, ko27, ko30, ko32, i62, gi66, i66, c67, gi76, ko78, i76, c84, hv85, gi94, ko96, i94, c102, hv103]⟩) (by simp -implicitDefEqProofs only [go_sem]) ?_
                obtain ⟨_, c106, h⟩ := bs h
                replace c106 := rqs c106
                simp -implicitDefEqProofs only [go_sem, he0, le0, qe0, pe0, gi62, ko27, ko30, ko32, i62, gi66, i66, c67, gi76, ko78, i76, c84, hv85, gi94, ko96, i94, c102, hv103, c106]
                refine append_G (o := o96) (ts := [30, 110]) (es := (v95 : List TRow).map cTRow) (xs := ([(⟨(if v85.f0 < v103.f0 then v103.f0 else v85.f0), r105.1⟩ : TRow)] : List TRow).map cTRow) (ho := growOK.sub ko96 (by decide)) (hG := by simp -implicitDefEqProofs only [go_sem, he0, le0, qe0, pe0, gi62, ko27, ko30, ko32, i62, gi66, i66, c67, gi76, ko78, i76, c84, hv85, gi94, ko96, i94, c102, hv103, c106]) (hj := by simp -implicitDefEqProofs only [go_sem]) (he := el22) (hx := by simp -implicitDefEqProofs only [go_sem, he0, le0, qe0, pe0, gi62, ko27, ko30, ko32, i62, gi66, i66, c67, gi76, ko78, i76, c84, hv85, gi94, ko96, i94, c102, hv103, c106]) (h1 := by simp -implicitDefEqProofs only [go_sem]) (h2 := by simp -implicitDefEqProofs only [go_sem]) (ha := rfl) (hra := rfl) (hb := by simpa using c106) (hbb := by decide) ?_
                intro o107 ko107
                cases h
                simp -implicitDefEqProofs only [go_sem, he0, le0, qe0, pe0, gi62, ko27, ko30, ko32, i62, gi66, i66, c67, gi76, ko78, i76, c84, hv85, gi94, ko96, i94, c102, hv103, c106, ko107]
                rw [hI94]
                refine ⟨o107, ?_⟩
                simp -implicitDefEqProofs only [go_sem, he0, le0, qe0, pe0, gi62, ko27, ko30, ko32, i62, gi66, i66, c67, gi76, ko78, i76, c84, hv85, gi94, ko96, i94, c102, hv103, c106, ko107, poison_grow (d := d + 1) (ts := [16]) ko107 (by decide), poison_grow (d := d + 1) (ts := [16]) ko30 (by decide), poison_grow (d := d + 1) (ts := [16]) ko32 (by decide), poison_grow (d := d + 1) (ts := [16]) ko96 (by decide)]
              · cases h
                simp -implicitDefEqProofs only [go_sem, he0, le0, qe0, pe0, gi62, ko27, ko30, ko32, i62, gi66, i66, c67, gi76, ko78, i76, c84, hv85, gi94, ko96, i94, c102]
                rw [hR94]
                first | refine ⟨rfl, o96, ?_⟩ | refine ⟨(), rfl, o96, ?_⟩
                simp -implicitDefEqProofs only [go_sem, he0, le0, qe0, pe0, gi62, ko27, ko30, ko32, i62, gi66, i66, c67, gi76, ko78, i76, c84, hv85, gi94, ko96, i94, c102]
            · clear hL94 hI94
              intro e s hr94
              rw [hR94] at hr94
              clear hR94
              rcases z94 with ⟨v99, v101⟩
              try dsimp only at h hr94
              obtain ⟨rfl, o100, gi108, ko100, i108⟩ := hr94
              cases h
              simp -implicitDefEqProofs only [go_sem, he0, le0, qe0, pe0, gi62, ko27, ko30, ko32, i62, gi66, i66, c67, gi76, ko78, i76, c84, hv85, gi108, ko100, i108]
              rw [hI76]
              refine ⟨o100, ?_⟩
              simp -implicitDefEqProofs only [go_sem, he0, le0, qe0, pe0, gi62, ko27, ko30, ko32, i62, gi66, i66, c67, gi76, ko78, i76, c84, hv85, gi108, ko100, i108, poison_grow (d := d + 1) (ts := [14, 16]) ko100 (by decide), poison_grow (d := d + 1) (ts := [14, 16]) ko30 (by decide), poison_grow (d := d + 1) (ts := [14, 16]) ko32 (by decide)]
          · cases h
            simp -implicitDefEqProofs only [go_sem, he0, le0, qe0, pe0, gi62, ko27, ko30, ko32, i62, gi66, i66, c67, gi76, ko78, i76, c84]
            rw [hR76]
            first | refine ⟨rfl, o78, ?_⟩ | refine ⟨(), rfl, o78, ?_⟩
            simp -implicitDefEqProofs only [go_sem, he0, le0, qe0, pe0, gi62, ko27, ko30, ko32, i62, gi66, i66, c67, gi76, ko78, i76, c84]
        · clear hL76 hI76
          intro e s hr76
          rw [hR76] at hr76
          clear hR76
          rcases z76 with ⟨v81, v83⟩
          try dsimp only at h hr76
          obtain ⟨rfl, o82, gi109, ko82, i109⟩ := hr76
          cases h
          subst hQ
          simp -implicitDefEqProofs only [go_sem, he0, le0, qe0, pe0, gi62, ko27, ko30, ko32, i62, gi66, i66, c67, gi109, ko82, i109, Try.results39]
theorem m_bound_engine_edge_ev (a0 : TBound_engine) (a1 : List TRow) (a2 : List TRat) (a3 : Bool) (r0 : TRat × Bool × TBound_engine × (List TRat)) (h : m_bound_engine_edge a0 a1 a2 a3 = some r0) (d : Nat) (G : Heap) (e0 t0 : Nat) (he0 : e0 ≤ d) (hGt0 : G e0 t0 = [.box [.p (.bool a0.f0)]]) (e1 t1 : Nat) (he1 : e1 ≤ d) (hGt1 : G e1 t1 = [.arr (a2.map cTRat)]) (hxt0t1 : (e0 = e1 ∧ t0 = t1) = False) : Tel Try.prog TB d 103 [.bp (e0, t0, 0) 0, .p (.sl (a1.map cTRow)), .arr (e1, t1, 0) a2.length 2, .p (.bool a3)] G (.tup [.agg ((cTRat r0.1).map .p), .p (.bool r0.2.1)]) (fillKey (fillKey (G) e0 t0 ([.box [.p (.bool r0.2.2.1.f0)]])) e1 t1 ([.arr (r0.2.2.2.map cTRat)])) := by
  unfold m_bound_engine_edge at h
  refine Tel.intro mix Try.func103 rfl (Nat.le_of_ble_eq_true rfl) {openAt := fun t => t == 29, borAt := fun t => t == 26, frzAt := fun t => t == 42, clean := fun r => if r = 3 then [12, 13] else []} (by kernel_rfl) (by kernel_rfl) ?_
  have le0 : (e0 ≤ d + 1) = True := by simp; omega
  have qe0 : (e0 = d + 1) = False := by simp; omega
  have pe0 : (d + 1 = e0) = False := by simp; omega
  have le1 : (e1 ≤ d + 1) = True := by simp; omega
  have qe1 : (e1 = d + 1) = False := by simp; omega
  have pe1 : (d + 1 = e1) = False := by simp; omega
  have hxt1t0 : (e1 = e0 ∧ t1 = t0) = False := by rw [← hxt0t1]; simp only [eq_comm]
  have wt0t1 := fk_swap (a := e1) (b := t1) (a' := e0) (b' := t0) (fun x => by rw [← hxt1t0]; exact x)
  refine gwp_heap (H' := fillKey (fillKey (cut d G) e0 t0 [.box [.p (.bool a0.f0)]]) e1 t1 [.arr (a2.map cTRat)]) ?_ ?_
  · rw [fill_self (B := cut d G) (a := e0) (b := t0) (by rw [cut_app, if_pos he0]; exact hGt0), fill_self (B := cut d G) (a := e1) (b := t1) (by rw [cut_app, if_pos he1]; exact hGt1)]
  generalize hQ : callPost _ _ _ _ _ = Q
  simp -implicitDefEqProofs only [go_sem, he0, le0, qe0, pe0, he1, le1, qe1, pe1, hxt0t1, hxt1t0, wt0t1]
  obtain ⟨z9, hL9, h⟩ := bs h
  obtain ⟨I9, hI9⟩ : ∃ I : (Int × Bool × Int × Int) → St → Prop, I = fun a s => match a with | (v10, v11, v12, v13) => s.G = fillKey (fillKey (fillKey (fillKey (cut d G) e0 t0 [.box [.p (.bool v11)]]) e1 t1 [.arr (a2.map cTRat)]) (d + 1) 8 [.box [.p (.int .i64 0), .p (.int .i64 0)]]) (d + 1) 10 [.box [.p (.int .i64 v12), .p (.int .i64 v13)]] ∧ s.F 0 = .bp (e0, t0, 0) 0 ∧ s.F 1 = .p (.sl (a1.map cTRow)) ∧ s.F 2 = .arr (e1, t1, 0) a2.length 2 ∧ s.F 3 = .p (.bool a3) ∧ s.F 8 = .bp (d + 1, 8, 0) 0 ∧ s.F 10 = .bp (d + 1, 10, 0) 0 ∧ s.F 15 = .p (.sl (a1.map cTRow)) ∧ s.F 16 = .p (.int .i64 (a1.length : Int)) ∧ s.F 17 = .p (.int .i64 v10) ∧ True := ⟨_, rfl⟩
  obtain ⟨R9, hR9⟩ : ∃ R : ((Bool × Int × Int) ⊕ (TRat × Bool × TBound_engine × (List TRat))) → GE → St → Prop, R = fun x e s => match x with | .inl (v14, v15, v16) => e = .exit 0 ∧ s.G = fillKey (fillKey (fillKey (fillKey (cut d G) e0 t0 [.box [.p (.bool v14)]]) e1 t1 [.arr (a2.map cTRat)]) (d + 1) 8 [.box [.p (.int .i64 0), .p (.int .i64 0)]]) (d + 1) 10 [.box [.p (.int .i64 v15), .p (.int .i64 v16)]] ∧ s.F 1 = .p (.sl (a1.map cTRow)) ∧ s.F 8 = .bp (d + 1, 8, 0) 0 ∧ s.F 10 = .bp (d + 1, 10, 0) 0 ∧ True | .inr r => e = .ret ∧ (r = r0 → Q .ret s) := ⟨_, rfl⟩
  refine lp (ts := [12, 13]) rfl hL9 I9 R9 ?_ ?_ ?_
  · rw [hI9]
    simp -implicitDefEqProofs only [go_sem, he0, le0, qe0, pe0, he1, le1, qe1, pe1, hxt0t1, hxt1t0, wt0t1]
  · clear h hL9
    rintro ⟨v10, v11, v12, v13⟩ y s h i
    rw [hI9] at i
    obtain ⟨gi9, i9⟩ := i
    replace h : m_bound_engine_edge_L0 a1 a2 a3 (v10, v11, v12, v13) = some y := h
    unfold m_bound_engine_edge_L0 at h
    rcases ib h with ⟨c17, h⟩ | ⟨c17, h⟩
    · obtain ⟨v18, hv18, h⟩ := bs h
      replace hv18 := gis hv18
      obtain ⟨r19, hr19, h⟩ := bs h
      simp -implicitDefEqProofs only [go_sem, he0, le0, qe0, pe0, he1, le1, qe1, pe1, hxt0t1, hxt1t0, wt0t1, gi9, i9, c17, hv18]
      refine call_look (m_term_Value_ev v18.f1 a2 r19 hr19 (d + 1) empty) (by simp -implicitDefEqProofs only [go_sem, he0, le0, qe0, pe0, he1, le1, qe1, pe1, hxt0t1, hxt1t0, wt0t1, gi9, i9, c17, hv18]) (by simp -implicitDefEqProofs only [go_sem]) (by simp -implicitDefEqProofs only [go_sem]) ?_ rfl
      obtain ⟨r20, hr20, h⟩ := bs h
      simp -implicitDefEqProofs only [go_sem, he0, le0, qe0, pe0, he1, le1, qe1, pe1, hxt0t1, hxt1t0, wt0t1, gi9, i9, c17, hv18]
      refine call_open0 (t0 := 999) (r := .agg [.p (.int .i64 r20.1.f0), .p (.int .i64 r20.1.f1)]) (m_bound_engine_rat_ev (⟨v11⟩ : TBound_engine) r19.1 r19.2 r20 hr20 (d + 1) _ e0 t0 (Nat.le_succ_of_le he0) (by simp -implicitDefEqProofs only [go_sem, he0, le0, qe0, pe0, he1, le1, qe1, pe1, hxt0t1, hxt1t0, wt0t1, gi9, i9, c17, hv18]) ) (by simp -implicitDefEqProofs only [go_sem, he0, le0, qe0, pe0, he1, le1, qe1, pe1, hxt0t1, hxt1t0, wt0t1, gi9, i9, c17, hv18]) rfl (by simp -implicitDefEqProofs only [go_sem, he0, le0, qe0, pe0, he1, le1, qe1, pe1, hxt0t1, hxt1t0, wt0t1, gi9, i9, c17, hv18]) (by simp -implicitDefEqProofs only [go_sem, he0, le0, qe0, pe0, he1, le1, qe1, pe1, hxt0t1, hxt1t0, wt0t1, gi9, i9, c17, hv18]) (by simp -implicitDefEqProofs only [go_sem]) ?_
      rcases ib h with ⟨c21, h⟩ | ⟨c21, h⟩
      · cases h
        simp -implicitDefEqProofs only [go_sem, he0, le0, qe0, pe0, he1, le1, qe1, pe1, hxt0t1, hxt1t0, wt0t1, gi9, i9, c17, hv18, c21]
        rw [hR9]
        refine ⟨rfl, ?_⟩
        intro hr
        subst hr
        subst hQ
        simp -implicitDefEqProofs only [go_sem, he0, le0, qe0, pe0, he1, le1, qe1, pe1, hxt0t1, hxt1t0, wt0t1, gi9, i9, c17, hv18, c21, Try.results103]
      · simp -implicitDefEqProofs only [go_sem, he0, le0, qe0, pe0, he1, le1, qe1, pe1, hxt0t1, hxt1t0, wt0t1, gi9, i9, c17, hv18, c21]
        obtain ⟨v22, hz, h⟩ := bs h
        obtain ⟨R23, hR23⟩ : ∃ R : St → Prop, R = fun s => s.G = fillKey (fillKey (fillKey (fillKey (fillKey (fillKey (cut d G) e0 t0 [.box [.p (.bool r20.2.f0)]]) e1 t1 [.arr (a2.map cTRat)]) (d + 1) 8 [.box [.p (.int .i64 0), .p (.int .i64 0)]]) (d + 1) 10 [.box [.p (.int .i64 v12), .p (.int .i64 v13)]]) (d + 1) 12 [.box [.p (.int .i64 v18.f0), .p (.sl (v18.f1.f0.map cTRat)), .p (.int .i64 v18.f1.f1.f0), .p (.int .i64 v18.f1.f1.f1)]]) (d + 1) 13 [.box [.p (.int .i64 v22), .p (.int .i64 r20.1.f1)]] ∧ s.F 0 = .bp (e0, t0, 0) 0 ∧ s.F 1 = .p (.sl (a1.map cTRow)) ∧ s.F 2 = .arr (e1, t1, 0) a2.length 2 ∧ s.F 3 = .p (.bool a3) ∧ s.F 8 = .bp (d + 1, 8, 0) 0 ∧ s.F 10 = .bp (d + 1, 10, 0) 0 ∧ s.F 11 = .p (.int .i64 v10) ∧ s.F 13 = .bp (d + 1, 13, 0) 0 ∧ s.F 15 = .p (.sl (a1.map cTRow)) ∧ s.F 16 = .p (.int .i64 (a1.length : Int)) ∧ s.F 17 = .p (.int .i64 v10) ∧ True := ⟨_, rfl⟩
        refine cutG R23 ?_ ?_
        · replace h := hz
          rcases ib h with ⟨c24, h⟩ | ⟨c24, h⟩
          · cases h
            simp -implicitDefEqProofs only [go_sem, he0, le0, qe0, pe0, he1, le1, qe1, pe1, hxt0t1, hxt1t0, wt0t1, gi9, i9, c17, hv18, c21, c24]
            rw [hR23]
            simp -implicitDefEqProofs only [go_sem, he0, le0, qe0, pe0, he1, le1, qe1, pe1, hxt0t1, hxt1t0, wt0t1, gi9, i9, c17, hv18, c21, c24]
          · cases h
            simp -implicitDefEqProofs only [go_sem, he0, le0, qe0, pe0, he1, le1, qe1, pe1, hxt0t1, hxt1t0, wt0t1, gi9, i9, c17, hv18, c21, c24]
            rw [hR23]
            simp -implicitDefEqProofs only [go_sem, he0, le0, qe0, pe0, he1, le1, qe1, pe1, hxt0t1, hxt1t0, wt0t1, gi9, i9, c17, hv18, c21, c24]
        · replace h := h; clear hz
          rintro s i
          rw [hR23] at i
          obtain ⟨gi25, i25⟩ := i
          clear hR23
          try dsimp only at h
          obtain ⟨r26, hr26, h⟩ := bs h
          simp -implicitDefEqProofs only [go_sem, he0, le0, qe0, pe0, he1, le1, qe1, pe1, hxt0t1, hxt1t0, wt0t1, gi9, i9, c17, hv18, c21, gi25, i25]
          refine call_frz (r' := .p (.int .i64 r26)) (m_rat_Compare_ev (⟨v22, r20.1.f1⟩ : TRat) (⟨v12, v13⟩ : TRat) r26 hr26 (d + 1) empty) (by simp -implicitDefEqProofs only [go_sem, he0, le0, qe0, pe0, he1, le1, qe1, pe1, hxt0t1, hxt1t0, wt0t1, gi9, i9, c17, hv18, c21, gi25, i25]) rfl (by simp -implicitDefEqProofs only [go_sem]) (by simp -implicitDefEqProofs only [go_sem]) ?_ rfl rfl
          simp -implicitDefEqProofs only [go_sem, he0, le0, qe0, pe0, he1, le1, qe1, pe1, hxt0t1, hxt1t0, wt0t1, gi9, i9, c17, hv18, c21, gi25, i25]
          obtain ⟨v27, hz, h⟩ := bs h
          obtain ⟨R28, hR28⟩ : ∃ R : St → Prop, R = fun s => s.G = fillKey (fillKey (fillKey (fillKey (fillKey (fillKey (cut d G) e0 t0 [.box [.p (.bool r20.2.f0)]]) e1 t1 [.arr (a2.map cTRat)]) (d + 1) 8 [.box [.p (.int .i64 0), .p (.int .i64 0)]]) (d + 1) 10 [.box [.p (.int .i64 v12), .p (.int .i64 v13)]]) (d + 1) 12 [.box [.p (.int .i64 v18.f0), .p (.sl (v18.f1.f0.map cTRat)), .p (.int .i64 v18.f1.f1.f0), .p (.int .i64 v18.f1.f1.f1)]]) (d + 1) 13 [.box [.p (.int .i64 v22), .p (.int .i64 r20.1.f1)]] ∧ s.F 0 = .bp (e0, t0, 0) 0 ∧ s.F 1 = .p (.sl (a1.map cTRow)) ∧ s.F 2 = .arr (e1, t1, 0) a2.length 2 ∧ s.F 3 = .p (.bool a3) ∧ s.F 8 = .bp (d + 1, 8, 0) 0 ∧ s.F 10 = .bp (d + 1, 10, 0) 0 ∧ s.F 13 = .bp (d + 1, 13, 0) 0 ∧ s.F 15 = .p (.sl (a1.map cTRow)) ∧ s.F 16 = .p (.int .i64 (a1.length : Int)) ∧ s.F 17 = .p (.int .i64 v10) ∧ s.F 59 = .p (.bool v27) ∧ True := ⟨_, rfl⟩
          refine cutR R28 ?_ ?_
          · replace h := hz
            rcases ib h with ⟨c29, h⟩ | ⟨c29, h⟩
            · cases h
              simp -implicitDefEqProofs only [go_sem, he0, le0, qe0, pe0, he1, le1, qe1, pe1, hxt0t1, hxt1t0, wt0t1, gi9, i9, c17, hv18, c21, gi25, i25, c29]
              rw [hR28]
              simp -implicitDefEqProofs only [go_sem, he0, le0, qe0, pe0, he1, le1, qe1, pe1, hxt0t1, hxt1t0, wt0t1, gi9, i9, c17, hv18, c21, gi25, i25, c29]
            · rcases ib h with ⟨c30, h⟩ | ⟨c30, h⟩
              · rcases ib h with ⟨c31, h⟩ | ⟨c31, h⟩
                · cases h
                  simp -implicitDefEqProofs only [go_sem, he0, le0, qe0, pe0, he1, le1, qe1, pe1, hxt0t1, hxt1t0, wt0t1, gi9, i9, c17, hv18, c21, gi25, i25, c29, c30, c31]
                  rw [hR28]
                  simp -implicitDefEqProofs only [go_sem, he0, le0, qe0, pe0, he1, le1, qe1, pe1, hxt0t1, hxt1t0, wt0t1, gi9, i9, c17, hv18, c21, gi25, i25, c29, c30, c31]
                · cases h
                  simp -implicitDefEqProofs only [go_sem, he0, le0, qe0, pe0, he1, le1, qe1, pe1, hxt0t1, hxt1t0, wt0t1, gi9, i9, c17, hv18, c21, gi25, i25, c29, c30, c31]
                  rw [hR28]
                  simp -implicitDefEqProofs only [go_sem, he0, le0, qe0, pe0, he1, le1, qe1, pe1, hxt0t1, hxt1t0, wt0t1, gi9, i9, c17, hv18, c21, gi25, i25, c29, c30, c31]
              · cases h
                simp -implicitDefEqProofs only [go_sem, he0, le0, qe0, pe0, he1, le1, qe1, pe1, hxt0t1, hxt1t0, wt0t1, gi9, i9, c17, hv18, c21, gi25, i25, c29, c30]
                rw [hR28]
                simp -implicitDefEqProofs only [go_sem, he0, le0, qe0, pe0, he1, le1, qe1, pe1, hxt0t1, hxt1t0, wt0t1, gi9, i9, c17, hv18, c21, gi25, i25, c29, c30]
          · replace h := h; clear hz
            rintro s i
            rw [hR28] at i
            obtain ⟨gi32, i32⟩ := i
            clear hR28
            try dsimp only at h
            simp -implicitDefEqProofs only [go_sem, he0, le0, qe0, pe0, he1, le1, qe1, pe1, hxt0t1, hxt1t0, wt0t1, gi9, i9, c17, hv18, c21, gi25, i25, gi32, i32]
            obtain ⟨⟨v33, v34⟩, hz, h⟩ := bs h
            obtain ⟨R35, hR35⟩ : ∃ R : St → Prop, R = fun s => s.G = fillKey (fillKey (fillKey (fillKey (fillKey (fillKey (cut d G) e0 t0 [.box [.p (.bool r20.2.f0)]]) e1 t1 [.arr (a2.map cTRat)]) (d + 1) 8 [.box [.p (.int .i64 0), .p (.int .i64 0)]]) (d + 1) 10 [.box [.p (.int .i64 v33), .p (.int .i64 v34)]]) (d + 1) 12 [.box [.p (.int .i64 v18.f0), .p (.sl (v18.f1.f0.map cTRat)), .p (.int .i64 v18.f1.f1.f0), .p (.int .i64 v18.f1.f1.f1)]]) (d + 1) 13 [.box [.p (.int .i64 v22), .p (.int .i64 r20.1.f1)]] ∧ s.F 0 = .bp (e0, t0, 0) 0 ∧ s.F 1 = .p (.sl (a1.map cTRow)) ∧ s.F 2 = .arr (e1, t1, 0) a2.length 2 ∧ s.F 3 = .p (.bool a3) ∧ s.F 8 = .bp (d + 1, 8, 0) 0 ∧ s.F 10 = .bp (d + 1, 10, 0) 0 ∧ s.F 15 = .p (.sl (a1.map cTRow)) ∧ s.F 16 = .p (.int .i64 (a1.length : Int)) ∧ s.F 17 = .p (.int .i64 v10) ∧ True := ⟨_, rfl⟩
            refine cutG R35 ?_ ?_
            · replace h := hz
              rcases ib h with ⟨c36, h⟩ | ⟨c36, h⟩
              · cases h
                simp -implicitDefEqProofs only [go_sem, he0, le0, qe0, pe0, he1, le1, qe1, pe1, hxt0t1, hxt1t0, wt0t1, gi9, i9, c17, hv18, c21, gi25, i25, gi32, i32, c36]
                rw [hR35]
                simp -implicitDefEqProofs only [go_sem, he0, le0, qe0, pe0, he1, le1, qe1, pe1, hxt0t1, hxt1t0, wt0t1, gi9, i9, c17, hv18, c21, gi25, i25, gi32, i32, c36]
              · cases h
                simp -implicitDefEqProofs only [go_sem, he0, le0, qe0, pe0, he1, le1, qe1, pe1, hxt0t1, hxt1t0, wt0t1, gi9, i9, c17, hv18, c21, gi25, i25, gi32, i32, c36]
                rw [hR35]
                simp -implicitDefEqProofs only [go_sem, he0, le0, qe0, pe0, he1, le1, qe1, pe1, hxt0t1, hxt1t0, wt0t1, gi9, i9, c17, hv18, c21, gi25, i25, gi32, i32, c36]
            · replace h := h; clear hz
              rintro s i
              rw [hR35] at i
              obtain ⟨gi37, i37⟩ := i
              clear hR35
              try dsimp only at h
              cases h
              simp -implicitDefEqProofs only [go_sem, he0, le0, qe0, pe0, he1, le1, qe1, pe1, hxt0t1, hxt1t0, wt0t1, gi9, i9, c17, hv18, c21, gi25, i25, gi32, i32, gi37, i37]
              rw [hI9]
              simp -implicitDefEqProofs only [go_sem, he0, le0, qe0, pe0, he1, le1, qe1, pe1, hxt0t1, hxt1t0, wt0t1, gi9, i9, c17, hv18, c21, gi25, i25, gi32, i32, gi37, i37]
    · cases h
      simp -implicitDefEqProofs only [go_sem, he0, le0, qe0, pe0, he1, le1, qe1, pe1, hxt0t1, hxt1t0, wt0t1, gi9, i9, c17]
      rw [hR9]
      first | refine ⟨rfl, ?_⟩ | refine ⟨(), rfl, ?_⟩
      simp -implicitDefEqProofs only [go_sem, he0, le0, qe0, pe0, he1, le1, qe1, pe1, hxt0t1, hxt1t0, wt0t1, gi9, i9, c17]
  · clear hL9 hI9
    intro e s hr9
    rw [hR9] at hr9
    clear hR9
    rcases z9 with ⟨v14, v15, v16⟩ | r
    · try dsimp only at h hr9
      obtain ⟨rfl, gi38, i38⟩ := hr9
      cases h
      subst hQ
      simp -implicitDefEqProofs only [go_sem, he0, le0, qe0, pe0, he1, le1, qe1, pe1, hxt0t1, hxt1t0, wt0t1, gi38, i38, Try.results103]
    · try dsimp only at h hr9
      obtain ⟨rfl, hr9⟩ := hr9
      cases h
      try simp -implicitDefEqProofs only [go_sem]
      exact hr9 rfl
theorem m_bound_engine_choose_ev (a0 : TBound_engine) (a1 : TBound_stage) (a2 : List TRat) (r0 : TRat × TBound_engine × (List TRat)) (h : m_bound_engine_choose a0 a1 a2 = some r0) (d : Nat) (G : Heap) (e0 t0 : Nat) (he0 : e0 ≤ d) (hGt0 : G e0 t0 = [.box [.p (.bool a0.f0)]]) (e1 t1 : Nat) (he1 : e1 ≤ d) (hGt1 : G e1 t1 = [.arr (a2.map cTRat)]) (hxt0t1 : (e0 = e1 ∧ t0 = t1) = False) : Tel Try.prog TB d 73 [.bp (e0, t0, 0) 0, .agg ((cTBound_stage a1).map .p), .arr (e1, t1, 0) a2.length 2] G (.agg ((cTRat r0.1).map .p)) (fillKey (fillKey (G) e0 t0 ([.box [.p (.bool r0.2.1.f0)]])) e1 t1 ([.arr (r0.2.2.map cTRat)])) := by
  unfold m_bound_engine_choose at h
  refine Tel.intro mix Try.func73 rfl (Nat.le_of_ble_eq_true rfl) {openAt := fun t => t == 18 || t == 26 || t == 53 || t == 63 || t == 70 || t == 82, frzAt := fun t => t == 4 || t == 50 || t == 60 || t == 67 || t == 79} (by kernel_rfl) (by kernel_rfl) ?_
  have le0 : (e0 ≤ d + 1) = True := by simp; omega
  have qe0 : (e0 = d + 1) = False := by simp; omega
  have pe0 : (d + 1 = e0) = False := by simp; omega
  have le1 : (e1 ≤ d + 1) = True := by simp; omega
  have qe1 : (e1 = d + 1) = False := by simp; omega
  have pe1 : (d + 1 = e1) = False := by simp; omega
  have hxt1t0 : (e1 = e0 ∧ t1 = t0) = False := by rw [← hxt0t1]; simp only [eq_comm]
  have wt0t1 := fk_swap (a := e1) (b := t1) (a' := e0) (b' := t0) (fun x => by rw [← hxt1t0]; exact x)
  refine gwp_heap (H' := fillKey (fillKey (cut d G) e0 t0 [.box [.p (.bool a0.f0)]]) e1 t1 [.arr (a2.map cTRat)]) ?_ ?_
  · rw [fill_self (B := cut d G) (a := e0) (b := t0) (by rw [cut_app, if_pos he0]; exact hGt0), fill_self (B := cut d G) (a := e1) (b := t1) (by rw [cut_app, if_pos he1]; exact hGt1)]
  generalize hQ : callPost _ _ _ _ _ = Q
  obtain ⟨r1, hr1, h⟩ := bs h
  simp -implicitDefEqProofs only [go_sem, he0, le0, qe0, pe0, he1, le1, qe1, pe1, hxt0t1, hxt1t0, wt0t1]
  refine call_open0 (t0 := 999) (r := .tup [.agg [.p (.int .i64 r1.1.f0), .p (.int .i64 r1.1.f1)], .p (.bool r1.2.1)]) (m_bound_engine_edge_ev a0 a1.f0 a2 true r1 hr1 (d + 1) _ e0 t0 (Nat.le_succ_of_le he0) (by simp -implicitDefEqProofs only [go_sem, he0, le0, qe0, pe0, he1, le1, qe1, pe1, hxt0t1, hxt1t0, wt0t1])  e1 t1 (Nat.le_succ_of_le he1) (by simp -implicitDefEqProofs only [go_sem, he0, le0, qe0, pe0, he1, le1, qe1, pe1, hxt0t1, hxt1t0, wt0t1])  hxt0t1) (by simp -implicitDefEqProofs only [go_sem, he0, le0, qe0, pe0, he1, le1, qe1, pe1, hxt0t1, hxt1t0, wt0t1]) rfl (by simp -implicitDefEqProofs only [go_sem, he0, le0, qe0, pe0, he1, le1, qe1, pe1, hxt0t1, hxt1t0, wt0t1]) (by simp -implicitDefEqProofs only [go_sem, he0, le0, qe0, pe0, he1, le1, qe1, pe1, hxt0t1, hxt1t0, wt0t1]) (by simp -implicitDefEqProofs only [go_sem]) ?_
  have cl2 : (r1.2.2.2).length = ((a2 : List TRat)).length := by have := len_edge hr1; (try simp only [List.length_set] at this); first | exact this | exact this.trans rfl
  have cv2 := arV_len (c := cTRat) (κ := (e1, t1, 0)) (n := 2) cl2
  have ce2 := nil_len cl2
  obtain ⟨r3, hr3, h⟩ := bs h
  simp -implicitDefEqProofs only [go_sem, he0, le0, qe0, pe0, he1, le1, qe1, pe1, hxt0t1, hxt1t0, wt0t1, cl2, cv2, ce2]
  refine call_open0 (t0 := 999) (r := .tup [.agg [.p (.int .i64 r3.1.f0), .p (.int .i64 r3.1.f1)], .p (.bool r3.2.1)]) (m_bound_engine_edge_ev r1.2.2.1 a1.f1 r1.2.2.2 false r3 hr3 (d + 1) _ e0 t0 (Nat.le_succ_of_le he0) (by simp -implicitDefEqProofs only [go_sem, he0, le0, qe0, pe0, he1, le1, qe1, pe1, hxt0t1, hxt1t0, wt0t1, cl2, cv2, ce2])  e1 t1 (Nat.le_succ_of_le he1) (by simp -implicitDefEqProofs only [go_sem, he0, le0, qe0, pe0, he1, le1, qe1, pe1, hxt0t1, hxt1t0, wt0t1, cl2, cv2, ce2])  hxt0t1) (by simp -implicitDefEqProofs only [go_sem, he0, le0, qe0, pe0, he1, le1, qe1, pe1, hxt0t1, hxt1t0, wt0t1, cl2, cv2, ce2]) rfl (by simp -implicitDefEqProofs only [go_sem, he0, le0, qe0, pe0, he1, le1, qe1, pe1, hxt0t1, hxt1t0, wt0t1, cl2, cv2, ce2]) (by simp -implicitDefEqProofs only [go_sem, he0, le0, qe0, pe0, he1, le1, qe1, pe1, hxt0t1, hxt1t0, wt0t1, cl2, cv2, ce2]) (by simp -implicitDefEqProofs only [go_sem]) ?_
  have cl4 : (r3.2.2.2).length = ((a2 : List TRat)).length := by have := len_edge hr3; (try simp only [List.length_set] at this); first | exact this | exact this.trans cl2
  have cv4 := arV_len (c := cTRat) (κ := (e1, t1, 0)) (n := 2) cl4
  have ce4 := nil_len cl4
  simp -implicitDefEqProofs only [go_sem, he0, le0, qe0, pe0, he1, le1, qe1, pe1, hxt0t1, hxt1t0, wt0t1, cl2, cv2, ce2, cl4, cv4, ce4]
  obtain ⟨v5, hz, h⟩ := bs h
  obtain ⟨R6, hR6⟩ : ∃ R : St → Prop, R = fun s => s.G = fillKey (fillKey (fillKey (fillKey (fillKey (fillKey (cut d G) e0 t0 [.box [.p (.bool r3.2.2.1.f0)]]) e1 t1 [.arr (r3.2.2.2.map cTRat)]) (d + 1) 6 [.box [.p (.int .i64 0), .p (.int .i64 0)]]) (d + 1) 7 [.box [.p (.int .i64 r1.1.f0), .p (.int .i64 r1.1.f1)]]) (d + 1) 9 [.box [.p (.int .i64 r3.1.f0), .p (.int .i64 r3.1.f1)]]) (d + 1) 11 [.box [.p (.int .i64 1), .p (.int .i64 1)]] ∧ s.F 0 = .bp (e0, t0, 0) 0 ∧ s.F 6 = .bp (d + 1, 6, 0) 0 ∧ s.F 7 = .bp (d + 1, 7, 0) 0 ∧ s.F 8 = .p (.bool r1.2.1) ∧ s.F 9 = .bp (d + 1, 9, 0) 0 ∧ s.F 10 = .p (.bool r3.2.1) ∧ s.F 11 = .bp (d + 1, 11, 0) 0 ∧ s.F 30 = .p (.bool v5) ∧ True := ⟨_, rfl⟩
  refine cutR R6 ?_ ?_
  · replace h := hz
    rcases ib h with ⟨c7, h⟩ | ⟨c7, h⟩
    · cases h
      simp -implicitDefEqProofs only [go_sem, he0, le0, qe0, pe0, he1, le1, qe1, pe1, hxt0t1, hxt1t0, wt0t1, cl2, cv2, ce2, cl4, cv4, ce4, c7]
      rw [hR6]
      simp -implicitDefEqProofs only [go_sem, he0, le0, qe0, pe0, he1, le1, qe1, pe1, hxt0t1, hxt1t0, wt0t1, cl2, cv2, ce2, cl4, cv4, ce4, c7]
    · rcases ib h with ⟨c8, h⟩ | ⟨c8, h⟩
      · cases h
        simp -implicitDefEqProofs only [go_sem, he0, le0, qe0, pe0, he1, le1, qe1, pe1, hxt0t1, hxt1t0, wt0t1, cl2, cv2, ce2, cl4, cv4, ce4, c7, c8]
        rw [hR6]
        simp -implicitDefEqProofs only [go_sem, he0, le0, qe0, pe0, he1, le1, qe1, pe1, hxt0t1, hxt1t0, wt0t1, cl2, cv2, ce2, cl4, cv4, ce4, c7, c8]
      · cases h
        simp -implicitDefEqProofs only [go_sem, he0, le0, qe0, pe0, he1, le1, qe1, pe1, hxt0t1, hxt1t0, wt0t1, cl2, cv2, ce2, cl4, cv4, ce4, c7, c8]
        rw [hR6]
        simp -implicitDefEqProofs only [go_sem, he0, le0, qe0, pe0, he1, le1, qe1, pe1, hxt0t1, hxt1t0, wt0t1, cl2, cv2, ce2, cl4, cv4, ce4, c7, c8]
  · replace h := h; clear hz
    rintro s i
    rw [hR6] at i
    obtain ⟨gi9, i9⟩ := i
    clear hR6
    try dsimp only at h
    rcases ib h with ⟨c10, h⟩ | ⟨c10, h⟩
    · cases h
      subst hQ
      simp -implicitDefEqProofs only [go_sem, he0, le0, qe0, pe0, he1, le1, qe1, pe1, hxt0t1, hxt1t0, wt0t1, cl2, cv2, ce2, cl4, cv4, ce4, gi9, i9, c10, Try.results73]
    · rcases ib h with ⟨c11, h⟩ | ⟨c11, h⟩
      · obtain ⟨r12, hr12, h⟩ := bs h
        simp -implicitDefEqProofs only [go_sem, he0, le0, qe0, pe0, he1, le1, qe1, pe1, hxt0t1, hxt1t0, wt0t1, cl2, cv2, ce2, cl4, cv4, ce4, gi9, i9, c10, c11]
        refine call_frz (r' := .tup [.agg [.p (.int .i64 r12.1.f0), .p (.int .i64 r12.1.f1)], .p (.int .i64 r12.2)]) (m_rat_Add_ev r1.1 (⟨1, 1⟩ : TRat) r12 hr12 (d + 1) empty) (by simp -implicitDefEqProofs only [go_sem, he0, le0, qe0, pe0, he1, le1, qe1, pe1, hxt0t1, hxt1t0, wt0t1, cl2, cv2, ce2, cl4, cv4, ce4, gi9, i9, c10, c11]) rfl (by simp -implicitDefEqProofs only [go_sem]) (by simp -implicitDefEqProofs only [go_sem]) ?_ rfl rfl
        obtain ⟨r13, hr13, h⟩ := bs h
        simp -implicitDefEqProofs only [go_sem, he0, le0, qe0, pe0, he1, le1, qe1, pe1, hxt0t1, hxt1t0, wt0t1, cl2, cv2, ce2, cl4, cv4, ce4, gi9, i9, c10, c11]
        refine call_open0 (t0 := 999) (r := .agg [.p (.int .i64 r13.1.f0), .p (.int .i64 r13.1.f1)]) (m_bound_engine_rat_ev r3.2.2.1 r12.1 r12.2 r13 hr13 (d + 1) _ e0 t0 (Nat.le_succ_of_le he0) (by simp -implicitDefEqProofs only [go_sem, he0, le0, qe0, pe0, he1, le1, qe1, pe1, hxt0t1, hxt1t0, wt0t1, cl2, cv2, ce2, cl4, cv4, ce4, gi9, i9, c10, c11]) ) (by simp -implicitDefEqProofs only [go_sem, he0, le0, qe0, pe0, he1, le1, qe1, pe1, hxt0t1, hxt1t0, wt0t1, cl2, cv2, ce2, cl4, cv4, ce4, gi9, i9, c10, c11]) rfl (by simp -implicitDefEqProofs only [go_sem, he0, le0, qe0, pe0, he1, le1, qe1, pe1, hxt0t1, hxt1t0, wt0t1, cl2, cv2, ce2, cl4, cv4, ce4, gi9, i9, c10, c11]) (by simp -implicitDefEqProofs only [go_sem, he0, le0, qe0, pe0, he1, le1, qe1, pe1, hxt0t1, hxt1t0, wt0t1, cl2, cv2, ce2, cl4, cv4, ce4, gi9, i9, c10, c11]) (by simp -implicitDefEqProofs only [go_sem]) ?_
        cases h
        subst hQ
        simp -implicitDefEqProofs only [go_sem, he0, le0, qe0, pe0, he1, le1, qe1, pe1, hxt0t1, hxt1t0, wt0t1, cl2, cv2, ce2, cl4, cv4, ce4, gi9, i9, c10, c11, Try.results73]
      · rcases ib h with ⟨c14, h⟩ | ⟨c14, h⟩
        · obtain ⟨r15, hr15, h⟩ := bs h
          simp -implicitDefEqProofs only [go_sem, he0, le0, qe0, pe0, he1, le1, qe1, pe1, hxt0t1, hxt1t0, wt0t1, cl2, cv2, ce2, cl4, cv4, ce4, gi9, i9, c10, c11, c14]
          refine call_frz (r' := .tup [.agg [.p (.int .i64 r15.1.f0), .p (.int .i64 r15.1.f1)], .p (.int .i64 r15.2)]) (m_rat_Sub_ev r3.1 (⟨1, 1⟩ : TRat) r15 hr15 (d + 1) empty) (by simp -implicitDefEqProofs only [go_sem, he0, le0, qe0, pe0, he1, le1, qe1, pe1, hxt0t1, hxt1t0, wt0t1, cl2, cv2, ce2, cl4, cv4, ce4, gi9, i9, c10, c11, c14]) rfl (by simp -implicitDefEqProofs only [go_sem]) (by simp -implicitDefEqProofs only [go_sem]) ?_ rfl rfl
          obtain ⟨r16, hr16, h⟩ := bs h
          simp -implicitDefEqProofs only [go_sem, he0, le0, qe0, pe0, he1, le1, qe1, pe1, hxt0t1, hxt1t0, wt0t1, cl2, cv2, ce2, cl4, cv4, ce4, gi9, i9, c10, c11, c14]
          refine call_open0 (t0 := 999) (r := .agg [.p (.int .i64 r16.1.f0), .p (.int .i64 r16.1.f1)]) (m_bound_engine_rat_ev r3.2.2.1 r15.1 r15.2 r16 hr16 (d + 1) _ e0 t0 (Nat.le_succ_of_le he0) (by simp -implicitDefEqProofs only [go_sem, he0, le0, qe0, pe0, he1, le1, qe1, pe1, hxt0t1, hxt1t0, wt0t1, cl2, cv2, ce2, cl4, cv4, ce4, gi9, i9, c10, c11, c14]) ) (by simp -implicitDefEqProofs only [go_sem, he0, le0, qe0, pe0, he1, le1, qe1, pe1, hxt0t1, hxt1t0, wt0t1, cl2, cv2, ce2, cl4, cv4, ce4, gi9, i9, c10, c11, c14]) rfl (by simp -implicitDefEqProofs only [go_sem, he0, le0, qe0, pe0, he1, le1, qe1, pe1, hxt0t1, hxt1t0, wt0t1, cl2, cv2, ce2, cl4, cv4, ce4, gi9, i9, c10, c11, c14]) (by simp -implicitDefEqProofs only [go_sem, he0, le0, qe0, pe0, he1, le1, qe1, pe1, hxt0t1, hxt1t0, wt0t1, cl2, cv2, ce2, cl4, cv4, ce4, gi9, i9, c10, c11, c14]) (by simp -implicitDefEqProofs only [go_sem]) ?_
          cases h
          subst hQ
          simp -implicitDefEqProofs only [go_sem, he0, le0, qe0, pe0, he1, le1, qe1, pe1, hxt0t1, hxt1t0, wt0t1, cl2, cv2, ce2, cl4, cv4, ce4, gi9, i9, c10, c11, c14, Try.results73]
        · obtain ⟨r17, hr17, h⟩ := bs h
          simp -implicitDefEqProofs only [go_sem, he0, le0, qe0, pe0, he1, le1, qe1, pe1, hxt0t1, hxt1t0, wt0t1, cl2, cv2, ce2, cl4, cv4, ce4, gi9, i9, c10, c11, c14]
          refine call_frz (r' := .tup [.agg [.p (.int .i64 r17.1.f0), .p (.int .i64 r17.1.f1)], .p (.int .i64 r17.2)]) (m_rat_Add_ev r1.1 r3.1 r17 hr17 (d + 1) empty) (by simp -implicitDefEqProofs only [go_sem, he0, le0, qe0, pe0, he1, le1, qe1, pe1, hxt0t1, hxt1t0, wt0t1, cl2, cv2, ce2, cl4, cv4, ce4, gi9, i9, c10, c11, c14]) rfl (by simp -implicitDefEqProofs only [go_sem]) (by simp -implicitDefEqProofs only [go_sem]) ?_ rfl rfl
          obtain ⟨r18, hr18, h⟩ := bs h
          simp -implicitDefEqProofs only [go_sem, he0, le0, qe0, pe0, he1, le1, qe1, pe1, hxt0t1, hxt1t0, wt0t1, cl2, cv2, ce2, cl4, cv4, ce4, gi9, i9, c10, c11, c14]
          refine call_open0 (t0 := 999) (r := .agg [.p (.int .i64 r18.1.f0), .p (.int .i64 r18.1.f1)]) (m_bound_engine_rat_ev r3.2.2.1 r17.1 r17.2 r18 hr18 (d + 1) _ e0 t0 (Nat.le_succ_of_le he0) (by simp -implicitDefEqProofs only [go_sem, he0, le0, qe0, pe0, he1, le1, qe1, pe1, hxt0t1, hxt1t0, wt0t1, cl2, cv2, ce2, cl4, cv4, ce4, gi9, i9, c10, c11, c14]) ) (by simp -implicitDefEqProofs only [go_sem, he0, le0, qe0, pe0, he1, le1, qe1, pe1, hxt0t1, hxt1t0, wt0t1, cl2, cv2, ce2, cl4, cv4, ce4, gi9, i9, c10, c11, c14]) rfl (by simp -implicitDefEqProofs only [go_sem, he0, le0, qe0, pe0, he1, le1, qe1, pe1, hxt0t1, hxt1t0, wt0t1, cl2, cv2, ce2, cl4, cv4, ce4, gi9, i9, c10, c11, c14]) (by simp -implicitDefEqProofs only [go_sem, he0, le0, qe0, pe0, he1, le1, qe1, pe1, hxt0t1, hxt1t0, wt0t1, cl2, cv2, ce2, cl4, cv4, ce4, gi9, i9, c10, c11, c14]) (by simp -implicitDefEqProofs only [go_sem]) ?_
          rcases ib h with ⟨c19, h⟩ | ⟨c19, h⟩
          · cases h
            subst hQ
            simp -implicitDefEqProofs only [go_sem, he0, le0, qe0, pe0, he1, le1, qe1, pe1, hxt0t1, hxt1t0, wt0t1, cl2, cv2, ce2, cl4, cv4, ce4, gi9, i9, c10, c11, c14, c19, Try.results73]
          · obtain ⟨r20, hr20, h⟩ := bs h
            simp -implicitDefEqProofs only [go_sem, he0, le0, qe0, pe0, he1, le1, qe1, pe1, hxt0t1, hxt1t0, wt0t1, cl2, cv2, ce2, cl4, cv4, ce4, gi9, i9, c10, c11, c14, c19]
            refine call_frz (r' := .tup [.agg [.p (.int .i64 r20.1.f0), .p (.int .i64 r20.1.f1)], .p (.int .i64 r20.2)]) (m_rat_Mul_ev r18.1 (⟨1, 2⟩ : TRat) r20 hr20 (d + 1) empty) (by simp -implicitDefEqProofs only [go_sem, he0, le0, qe0, pe0, he1, le1, qe1, pe1, hxt0t1, hxt1t0, wt0t1, cl2, cv2, ce2, cl4, cv4, ce4, gi9, i9, c10, c11, c14, c19]) rfl (by simp -implicitDefEqProofs only [go_sem]) (by simp -implicitDefEqProofs only [go_sem]) ?_ rfl rfl
            obtain ⟨r21, hr21, h⟩ := bs h
            simp -implicitDefEqProofs only [go_sem, he0, le0, qe0, pe0, he1, le1, qe1, pe1, hxt0t1, hxt1t0, wt0t1, cl2, cv2, ce2, cl4, cv4, ce4, gi9, i9, c10, c11, c14, c19]
            refine call_open0 (t0 := 999) (r := .agg [.p (.int .i64 r21.1.f0), .p (.int .i64 r21.1.f1)]) (m_bound_engine_rat_ev r18.2 r20.1 r20.2 r21 hr21 (d + 1) _ e0 t0 (Nat.le_succ_of_le he0) (by simp -implicitDefEqProofs only [go_sem, he0, le0, qe0, pe0, he1, le1, qe1, pe1, hxt0t1, hxt1t0, wt0t1, cl2, cv2, ce2, cl4, cv4, ce4, gi9, i9, c10, c11, c14, c19]) ) (by simp -implicitDefEqProofs only [go_sem, he0, le0, qe0, pe0, he1, le1, qe1, pe1, hxt0t1, hxt1t0, wt0t1, cl2, cv2, ce2, cl4, cv4, ce4, gi9, i9, c10, c11, c14, c19]) rfl (by simp -implicitDefEqProofs only [go_sem, he0, le0, qe0, pe0, he1, le1, qe1, pe1, hxt0t1, hxt1t0, wt0t1, cl2, cv2, ce2, cl4, cv4, ce4, gi9, i9, c10, c11, c14, c19]) (by simp -implicitDefEqProofs only [go_sem, he0, le0, qe0, pe0, he1, le1, qe1, pe1, hxt0t1, hxt1t0, wt0t1, cl2, cv2, ce2, cl4, cv4, ce4, gi9, i9, c10, c11, c14, c19]) (by simp -implicitDefEqProofs only [go_sem]) ?_
            cases h
            subst hQ
            simp -implicitDefEqProofs only [go_sem, he0, le0, qe0, pe0, he1, le1, qe1, pe1, hxt0t1, hxt1t0, wt0t1, cl2, cv2, ce2, cl4, cv4, ce4, gi9, i9, c10, c11, c14, c19, Try.results73]
end Go.E
end
section
set_option linter.all false
set_option maxRecDepth 100000
namespace Go.E
open Go Go.Proofs Go.Eng
variable {TB : Nat → Option Obj}
theorem m_bound_engine_witness_ev (a0 : TBound_engine) (a1 : List TBound_stage) (a2 : List TTerm) (a3 : List Int) (r0 : (List TRat) × TBound_engine) (h : m_bound_engine_witness a0 a1 a2 a3 = some r0) (d : Nat) (G : Heap) (e0 t0 : Nat) (he0 : e0 ≤ d) (hGt0 : G e0 t0 = [.box [.p (.bool a0.f0)]]) : Tel Try.prog TB d 41 [.bp (e0, t0, 0) 0, .p (.sl (a1.map cTBound_stage)), .p (.sl (a2.map cTTerm)), .p (.sl (a3.map cii64))] G (.own (r0.1.map cTRat) 2) (fillKey (G) e0 t0 ([.box [.p (.bool r0.2.f0)]])) := by
  unfold m_bound_engine_witness at h
  refine Tel.intro mix Try.func41 rfl (Nat.le_of_ble_eq_true rfl) {openAt := fun t => t == 40 || t == 59, borAt := fun t => t == 56, frzAt := fun t => t == 30, boxAt := fun t => if t = 63 then some 900063 else if t = 65 then some 13 else if t = 68 then some 13 else none, clean := fun r => if r = 8 then [12, 13] else []} (by kernel_rfl) (by kernel_rfl) ?_
  have le0 : (e0 ≤ d + 1) = True := by simp; omega
  have qe0 : (e0 = d + 1) = False := by simp; omega
  have pe0 : (d + 1 = e0) = False := by simp; omega
  refine gwp_heap (H' := fillKey (cut d G) e0 t0 [.box [.p (.bool a0.f0)]]) ?_ ?_
  · rw [fill_self (B := cut d G) (a := e0) (b := t0) (by rw [cut_app, if_pos he0]; exact hGt0)]
  generalize hQ : callPost _ _ _ _ _ = Q
  obtain ⟨r1, hr1, h⟩ := bs h
  simp -implicitDefEqProofs only [go_sem, he0, le0, qe0, pe0]
  refine call_own (r' := .arr (d + 1, 16, 0) r1.length 2) (os := [.arr (r1.map cTRat)]) (m_slices_Repeat_api_Rat_ev ([(⟨0, 1⟩ : TRat)]) 8 r1 hr1 (d + 1) empty) (by simp -implicitDefEqProofs only [go_sem, he0, le0, qe0, pe0]) rfl (by simp -implicitDefEqProofs only [go_sem]) (by simp -implicitDefEqProofs only [go_sem, he0, le0, qe0, pe0]) (by simp -implicitDefEqProofs only [go_sem]) ?_ rfl rfl
  simp -implicitDefEqProofs only [go_sem, he0, le0, qe0, pe0]
  obtain ⟨z8, hL8, h⟩ := bs h
  obtain ⟨I8, hI8⟩ : ∃ I : (Int × Bool × (List TRat)) → St → Prop, I = fun a s => match a with | (v9, v10, v11) => s.G = fillKey (fillKey (cut d G) e0 t0 [.box [.p (.bool v10)]]) (d + 1) 16 [.arr (v11.map cTRat)] ∧ s.F 0 = .bp (e0, t0, 0) 0 ∧ s.F 1 = .p (.sl (a1.map cTBound_stage)) ∧ s.F 2 = .p (.sl (a2.map cTTerm)) ∧ s.F 3 = .p (.sl (a3.map cii64)) ∧ s.F 9 = .arr (d + 1, 16, 0) v11.length 2 ∧ s.F 10 = .p (.int .i64 v9) ∧ True := ⟨_, rfl⟩
  obtain ⟨R8, hR8⟩ : ∃ R : (Bool × (List TRat)) → GE → St → Prop, R = fun x e s => match x with | (v12, v13) => e = .exit 0 ∧ s.G = fillKey (fillKey (cut d G) e0 t0 [.box [.p (.bool v12)]]) (d + 1) 16 [.arr (v13.map cTRat)] ∧ s.F 0 = .bp (e0, t0, 0) 0 ∧ s.F 2 = .p (.sl (a2.map cTTerm)) ∧ s.F 3 = .p (.sl (a3.map cii64)) ∧ s.F 9 = .arr (d + 1, 16, 0) v13.length 2 ∧ True := ⟨_, rfl⟩
  refine lp (ts := []) rfl hL8 I8 R8 ?_ ?_ ?_
  · rw [hI8]
    simp -implicitDefEqProofs only [go_sem, he0, le0, qe0, pe0]
  · clear h hL8
    rintro ⟨v9, v10, v11⟩ y s h i
    rw [hI8] at i
    obtain ⟨gi8, i8⟩ := i
    replace h : m_bound_engine_witness_L0 a3 a1 (v9, v10, v11) = some y := h
    unfold m_bound_engine_witness_L0 at h
    simp -implicitDefEqProofs only [go_sem, he0, le0, qe0, pe0, gi8, i8]
    obtain ⟨v14, hz, h⟩ := bs h
    obtain ⟨R15, hR15⟩ : ∃ R : St → Prop, R = fun s => s.G = fillKey (fillKey (cut d G) e0 t0 [.box [.p (.bool v10)]]) (d + 1) 16 [.arr (v11.map cTRat)] ∧ s.F 0 = .bp (e0, t0, 0) 0 ∧ s.F 1 = .p (.sl (a1.map cTBound_stage)) ∧ s.F 2 = .p (.sl (a2.map cTTerm)) ∧ s.F 3 = .p (.sl (a3.map cii64)) ∧ s.F 9 = .arr (d + 1, 16, 0) v11.length 2 ∧ s.F 10 = .p (.int .i64 v9) ∧ s.F 25 = .p (.bool v14) ∧ True := ⟨_, rfl⟩
    refine cutR R15 ?_ ?_
    · replace h := hz
      rcases ib h with ⟨c16, h⟩ | ⟨c16, h⟩
      · cases h
        simp -implicitDefEqProofs only [go_sem, he0, le0, qe0, pe0, gi8, i8, c16]
        rw [hR15]
        simp -implicitDefEqProofs only [go_sem, he0, le0, qe0, pe0, gi8, i8, c16]
      · cases h
        simp -implicitDefEqProofs only [go_sem, he0, le0, qe0, pe0, gi8, i8, c16]
        rw [hR15]
        simp -implicitDefEqProofs only [go_sem, he0, le0, qe0, pe0, gi8, i8, c16]
    · replace h := h; clear hz
      rintro s i
      rw [hR15] at i
      obtain ⟨gi17, i17⟩ := i
      clear hR15
      try dsimp only at h
      rcases ib h with ⟨c18, h⟩ | ⟨c18, h⟩
      · obtain ⟨r19, hr19, h⟩ := bs h
        simp -implicitDefEqProofs only [go_sem, he0, le0, qe0, pe0, gi8, i8, gi17, i17, c18]
        refine call_frz (r' := .p (.bool r19)) (m_slices_Contains_int_ev a3 v9 r19 hr19 (d + 1) empty) (by simp -implicitDefEqProofs only [go_sem, he0, le0, qe0, pe0, gi8, i8, gi17, i17, c18]) rfl (by simp -implicitDefEqProofs only [go_sem]) (by simp -implicitDefEqProofs only [go_sem]) ?_ rfl rfl
        simp -implicitDefEqProofs only [go_sem, he0, le0, qe0, pe0, gi8, i8, gi17, i17, c18]
        obtain ⟨⟨v20, v21⟩, hz, h⟩ := bs h
        obtain ⟨R22, hR22⟩ : ∃ R : St → Prop, R = fun s => s.G = fillKey (fillKey (cut d G) e0 t0 [.box [.p (.bool v20)]]) (d + 1) 16 [.arr (v21.map cTRat)] ∧ s.F 0 = .bp (e0, t0, 0) 0 ∧ s.F 1 = .p (.sl (a1.map cTBound_stage)) ∧ s.F 2 = .p (.sl (a2.map cTTerm)) ∧ s.F 3 = .p (.sl (a3.map cii64)) ∧ s.F 9 = .arr (d + 1, 16, 0) v21.length 2 ∧ s.F 10 = .p (.int .i64 v9) ∧ True := ⟨_, rfl⟩
        refine cutG R22 ?_ ?_
        · replace h := hz
          rcases ib h with ⟨c23, h⟩ | ⟨c23, h⟩
          · obtain ⟨v24, hv24, h⟩ := bs h
            replace hv24 := gis hv24
            obtain ⟨r25, hr25, h⟩ := bs h
            simp -implicitDefEqProofs only [go_sem, he0, le0, qe0, pe0, gi8, i8, gi17, i17, c18, c23, hv24]
            refine call_open0 (t0 := 999) (r := .agg [.p (.int .i64 r25.1.f0), .p (.int .i64 r25.1.f1)]) (m_bound_engine_choose_ev (⟨v10⟩ : TBound_engine) v24 v11 r25 hr25 (d + 1) _ e0 t0 (Nat.le_succ_of_le he0) (by simp -implicitDefEqProofs only [go_sem, he0, le0, qe0, pe0, gi8, i8, gi17, i17, c18, c23, hv24])  (d + 1) 16 (Nat.le_refl _) (by simp -implicitDefEqProofs only [go_sem, he0, le0, qe0, pe0, gi8, i8, gi17, i17, c18, c23, hv24])  (by simp [qe0])) (by simp -implicitDefEqProofs only [go_sem, he0, le0, qe0, pe0, gi8, i8, gi17, i17, c18, c23, hv24]) rfl (by simp -implicitDefEqProofs only [go_sem, he0, le0, qe0, pe0, gi8, i8, gi17, i17, c18, c23, hv24]) (by simp -implicitDefEqProofs only [go_sem, he0, le0, qe0, pe0, gi8, i8, gi17, i17, c18, c23, hv24]) (by simp -implicitDefEqProofs only [go_sem]) ?_
            have cl26 : (r25.2.2).length = ((v11 : List TRat)).length := by have := len_choose hr25; (try simp only [List.length_set] at this); first | exact this | exact this.trans rfl
            have cv26 := arV_len (c := cTRat) (κ := (d + 1, 16, 0)) (n := 2) cl26
            have ce26 := nil_len cl26
            obtain ⟨_, c27, h⟩ := bs h
            replace c27 := rqs c27
            obtain ⟨_, c28, h⟩ := bs h
            replace c28 := rqs c28
            obtain ⟨v29, hv29, h⟩ := bs h
            replace hv29 := gis hv29
            cases h
            simp -implicitDefEqProofs only [go_sem, he0, le0, qe0, pe0, gi8, i8, gi17, i17, c18, c23, hv24, cl26, cv26, ce26, c27, c28, hv29]
            rw [hR22]
            simp -implicitDefEqProofs only [go_sem, he0, le0, qe0, pe0, gi8, i8, gi17, i17, c18, c23, hv24, cl26, cv26, ce26, c27, c28, hv29]
          · cases h
            simp -implicitDefEqProofs only [go_sem, he0, le0, qe0, pe0, gi8, i8, gi17, i17, c18, c23]
            rw [hR22]
            simp -implicitDefEqProofs only [go_sem, he0, le0, qe0, pe0, gi8, i8, gi17, i17, c18, c23]
        · replace h := h; clear hz
          rintro s i
          rw [hR22] at i
          obtain ⟨gi30, i30⟩ := i
          clear hR22
          try dsimp only at h
          cases h
          simp -implicitDefEqProofs only [go_sem, he0, le0, qe0, pe0, gi8, i8, gi17, i17, c18, gi30, i30]
          rw [hI8]
          simp -implicitDefEqProofs only [go_sem, he0, le0, qe0, pe0, gi8, i8, gi17, i17, c18, gi30, i30]
      · cases h
        simp -implicitDefEqProofs only [go_sem, he0, le0, qe0, pe0, gi8, i8, gi17, i17, c18]
        rw [hR8]
        first | refine ⟨rfl, ?_⟩ | refine ⟨(), rfl, ?_⟩
        simp -implicitDefEqProofs only [go_sem, he0, le0, qe0, pe0, gi8, i8, gi17, i17, c18]
  · clear hL8 hI8
    intro e s hr8
    rw [hR8] at hr8
    clear hR8
    rcases z8 with ⟨v12, v13⟩
    try dsimp only at h hr8
    obtain ⟨rfl, gi31, i31⟩ := hr8
    simp -implicitDefEqProofs only [go_sem, he0, le0, qe0, pe0, gi31, i31]
    obtain ⟨z38, hL38, h⟩ := bs h
    obtain ⟨I38, hI38⟩ : ∃ I : (Int × Bool × (List TRat)) → St → Prop, I = fun a s => match a with | (v39, v40, v41) => s.G = fillKey (fillKey (cut d G) e0 t0 [.box [.p (.bool v40)]]) (d + 1) 16 [.arr (v41.map cTRat)] ∧ s.F 0 = .bp (e0, t0, 0) 0 ∧ s.F 3 = .p (.sl (a3.map cii64)) ∧ s.F 9 = .arr (d + 1, 16, 0) v41.length 2 ∧ s.F 42 = .p (.sl (a2.map cTTerm)) ∧ s.F 43 = .p (.int .i64 (a2.length : Int)) ∧ s.F 44 = .p (.int .i64 v39) ∧ True := ⟨_, rfl⟩
    obtain ⟨R38, hR38⟩ : ∃ R : (Bool × (List TRat)) → GE → St → Prop, R = fun x e s => match x with | (v43, v44) => e = .exit 2 ∧ (∃ j42, s.G = fillKey (fillKey (fillKey (cut d G) e0 t0 [.box [.p (.bool v43)]]) (d + 1) 12 j42) (d + 1) 16 [.arr (v44.map cTRat)] ∧ s.F 9 = .arr (d + 1, 16, 0) v44.length 2 ∧ True) := ⟨_, rfl⟩
    refine lp (ts := [12, 13]) rfl hL38 I38 R38 ?_ ?_ ?_
    · rw [hI38]
      simp -implicitDefEqProofs only [go_sem, he0, le0, qe0, pe0, gi31, i31]
    · clear h hL38
      rintro ⟨v39, v40, v41⟩ y s h i
      rw [hI38] at i
      obtain ⟨gi38, i38⟩ := i
      replace h : m_bound_engine_witness_L1 a2 a3 (v39, v40, v41) = some y := h
      unfold m_bound_engine_witness_L1 at h
      rcases ib h with ⟨c45, h⟩ | ⟨c45, h⟩
      · obtain ⟨v46, hv46, h⟩ := bs h
        replace hv46 := gis hv46
        rcases ib h with ⟨c47, h⟩ | ⟨c47, h⟩
        · cases h
          simp -implicitDefEqProofs only [go_sem, he0, le0, qe0, pe0, gi31, i31, gi38, i38, c45, hv46, c47]
          rw [hR38]
          first | refine ⟨rfl, [.box [.p (.sl (v46.f0.map cTRat)), .p (.int .i64 v46.f1.f0), .p (.int .i64 v46.f1.f1)]], ?_⟩ | refine ⟨(), rfl, [.box [.p (.sl (v46.f0.map cTRat)), .p (.int .i64 v46.f1.f0), .p (.int .i64 v46.f1.f1)]], ?_⟩
          simp -implicitDefEqProofs only [go_sem, he0, le0, qe0, pe0, gi31, i31, gi38, i38, c45, hv46, c47]
        · obtain ⟨r48, hr48, h⟩ := bs h
          simp -implicitDefEqProofs only [go_sem, he0, le0, qe0, pe0, gi31, i31, gi38, i38, c45, hv46, c47]
          refine call_look (m_term_Value_ev v46 v41 r48 hr48 (d + 1) empty) (by simp -implicitDefEqProofs only [go_sem, he0, le0, qe0, pe0, gi31, i31, gi38, i38, c45, hv46, c47]) (by simp -implicitDefEqProofs only [go_sem]) (by simp -implicitDefEqProofs only [go_sem]) ?_ rfl
          obtain ⟨r49, hr49, h⟩ := bs h
          simp -implicitDefEqProofs only [go_sem, he0, le0, qe0, pe0, gi31, i31, gi38, i38, c45, hv46, c47]
          refine call_open0 (t0 := 999) (r := .agg [.p (.int .i64 r49.1.f0), .p (.int .i64 r49.1.f1)]) (m_bound_engine_rat_ev (⟨v40⟩ : TBound_engine) r48.1 r48.2 r49 hr49 (d + 1) _ e0 t0 (Nat.le_succ_of_le he0) (by simp -implicitDefEqProofs only [go_sem, he0, le0, qe0, pe0, gi31, i31, gi38, i38, c45, hv46, c47]) ) (by simp -implicitDefEqProofs only [go_sem, he0, le0, qe0, pe0, gi31, i31, gi38, i38, c45, hv46, c47]) rfl (by simp -implicitDefEqProofs only [go_sem, he0, le0, qe0, pe0, gi31, i31, gi38, i38, c45, hv46, c47]) (by simp -implicitDefEqProofs only [go_sem, he0, le0, qe0, pe0, gi31, i31, gi38, i38, c45, hv46, c47]) (by simp -implicitDefEqProofs only [go_sem]) ?_
          obtain ⟨v50, hv50, h⟩ := bs h
          replace hv50 := gis hv50
          obtain ⟨_, c51, h⟩ := bs h
          replace c51 := rqs c51
          obtain ⟨_, c52, h⟩ := bs h
          replace c52 := rqs c52
          obtain ⟨v53, hv53, h⟩ := bs h
          replace hv53 := gis hv53
          cases h
          simp -implicitDefEqProofs only [go_sem, he0, le0, qe0, pe0, gi31, i31, gi38, i38, c45, hv46, c47, hv50, c51, c52, hv53]
          rw [hI38]
          simp -implicitDefEqProofs only [go_sem, he0, le0, qe0, pe0, gi31, i31, gi38, i38, c45, hv46, c47, hv50, c51, c52, hv53]
      · cases h
        simp -implicitDefEqProofs only [go_sem, he0, le0, qe0, pe0, gi31, i31, gi38, i38, c45]
        rw [hR38]
        first | refine ⟨rfl, [], ?_⟩ | refine ⟨(), rfl, [], ?_⟩
        simp -implicitDefEqProofs only [go_sem, he0, le0, qe0, pe0, gi31, i31, gi38, i38, c45]
    · clear hL38 hI38
      intro e s hr38
      rw [hR38] at hr38
      clear hR38
      rcases z38 with ⟨v43, v44⟩
      try dsimp only at h hr38
      obtain ⟨rfl, j42, gi54, i54⟩ := hr38
      cases h
      subst hQ
      simp -implicitDefEqProofs only [go_sem, he0, le0, qe0, pe0, gi31, i31, gi54, i54, Try.results41]
theorem m_bound_engine_solve_1_ev (a0 : TRow) (r0 : Bool) (h : m_bound_engine_solve_1 a0 = some r0) (d : Nat) (G : Heap) : Tel Try.prog TB d 40 [.agg ((cTRow a0).map .p)] G (.p (.bool r0)) (G) := by
  unfold m_bound_engine_solve_1 at h
  refine Tel.intro mix Try.func40 rfl (Nat.le_of_ble_eq_true rfl) {frzAt := fun t => t == 1} (by kernel_rfl) (by kernel_rfl) ?_
  generalize hQ : callPost _ _ _ _ _ = Q
  rcases ib h with ⟨c1, h⟩ | ⟨c1, h⟩
  · cases h
    subst hQ
    simp -implicitDefEqProofs only [go_sem, c1, Try.results40]
  · rcases ib h with ⟨c2, h⟩ | ⟨c2, h⟩
    · cases h
      subst hQ
      simp -implicitDefEqProofs only [go_sem, c1, c2, Try.results40]
    · cases h
      subst hQ
      simp -implicitDefEqProofs only [go_sem, c1, c2, Try.results40]
theorem m_bound_engine_solve_ev (a0 : TBound_engine) (a1 : List TRow) (r0 : (List TRat) × Int × TBound_engine) (h : m_bound_engine_solve a0 a1 = some r0) (d : Nat) (G : Heap) (e0 t0 : Nat) (he0 : e0 ≤ d) (hGt0 : G e0 t0 = [.box [.p (.bool a0.f0)]]) : Tel Try.prog TB d 25 [.bp (e0, t0, 0) 0, .p (.sl (a1.map cTRow))] G (.tup [.p (.sl (r0.1.map cTRat)), .p (.int .i64 r0.2.1)]) (fillKey (G) e0 t0 ([.box [.p (.bool r0.2.2.f0)]])) := by
  unfold m_bound_engine_solve at h
  refine Tel.intro mix Try.func25 rfl (Nat.le_of_ble_eq_true rfl) {openAt := fun t => t == 62 || t == 81 || t == 98, drwAt := fun t => t == 62, frzAt := fun t => t == 36 || t == 58 || t == 93, boxAt := fun t => if t = 54 then some 14 else if t = 56 then some 14 else if t = 1000064 then some 64 else none, clean := fun r => if r = 3 then [8] else if r = 13 then [14] else if r = 20 then [17, 1000012] else []} (by kernel_rfl) (by kernel_rfl) ?_
  have le0 : (e0 ≤ d + 1) = True := by simp; omega
  have qe0 : (e0 = d + 1) = False := by simp; omega
  have pe0 : (d + 1 = e0) = False := by simp; omega
  refine gwp_heap (H' := fillKey (cut d G) e0 t0 [.box [.p (.bool a0.f0)]]) ?_ ?_
  · rw [fill_self (B := cut d G) (a := e0) (b := t0) (by rw [cut_app, if_pos he0]; exact hGt0)]
  generalize hQ : callPost _ _ _ _ _ = Q
  simp -implicitDefEqProofs only [go_sem, he0, le0, qe0, pe0]
  obtain ⟨z7, hL7, h⟩ := bs h
  obtain ⟨I7, hI7⟩ : ∃ I : ((List TTerm) × Int) → St → Prop, I = fun a s => match a with | (v8, v10) => ∃ o9, s.G = fillKey (fillKey (cut d G) e0 t0 [.box [.p (.bool a0.f0)]]) (d + 1) 32 (growO o9 32 3 (v8.map cTTerm)) ∧ growOK o9 [32] ∧ s.F 0 = .bp (e0, t0, 0) 0 ∧ s.F 1 = .p (.sl (a1.map cTRow)) ∧ s.F 6 = growV o9 (d + 1) (v8.map cTTerm) ∧ s.F 19 = .p (.sl (a1.map cTRow)) ∧ s.F 20 = .p (.int .i64 (a1.length : Int)) ∧ s.F 21 = .p (.int .i64 v10) ∧ True := ⟨_, rfl⟩
  obtain ⟨R7, hR7⟩ : ∃ R : ((List TTerm)) → GE → St → Prop, R = fun v11 e s => e = .exit 0 ∧ (∃ o12, s.G = fillKey (fillKey (cut d G) e0 t0 [.box [.p (.bool a0.f0)]]) (d + 1) 32 (growO o12 32 3 (v11.map cTTerm)) ∧ growOK o12 [32] ∧ s.F 0 = .bp (e0, t0, 0) 0 ∧ s.F 1 = .p (.sl (a1.map cTRow)) ∧ s.F 6 = growV o12 (d + 1) (v11.map cTTerm) ∧ True) := ⟨_, rfl⟩
  refine lp (ts := [8]) rfl hL7 I7 R7 ?_ ?_ ?_
  · rw [hI7]
    refine ⟨none, ?_⟩
    simp -implicitDefEqProofs only [go_sem, he0, le0, qe0, pe0]
  · clear h hL7
    rintro ⟨v8, v10⟩ y s h i
    rw [hI7] at i
    obtain ⟨o9, gi7, ko9, i7⟩ := i
    replace h : m_bound_engine_solve_L0 a1 (v8, v10) = some y := h
    unfold m_bound_engine_solve_L0 at h
    rcases ib h with ⟨c13, h⟩ | ⟨c13, h⟩
    · obtain ⟨v14, hv14, h⟩ := bs h
      replace hv14 := gis hv14
      simp -implicitDefEqProofs only [go_sem, he0, le0, qe0, pe0, gi7, ko9, i7, c13, hv14]
      obtain ⟨v15, hz, h⟩ := bs h
      obtain ⟨R17, hR17⟩ : ∃ R : St → Prop, R = fun s => ∃ o16, s.G = fillKey (fillKey (fillKey (cut d G) e0 t0 [.box [.p (.bool a0.f0)]]) (d + 1) 8 [.box [.p (.int .i64 v14.f0), .p (.sl (v14.f1.f0.map cTRat)), .p (.int .i64 v14.f1.f1.f0), .p (.int .i64 v14.f1.f1.f1)]]) (d + 1) 32 (growO o16 32 3 (v15.map cTTerm)) ∧ growOK o16 [32] ∧ s.F 0 = .bp (e0, t0, 0) 0 ∧ s.F 1 = .p (.sl (a1.map cTRow)) ∧ s.F 6 = growV o16 (d + 1) (v15.map cTTerm) ∧ s.F 19 = .p (.sl (a1.map cTRow)) ∧ s.F 20 = .p (.int .i64 (a1.length : Int)) ∧ s.F 21 = .p (.int .i64 v10) ∧ True := ⟨_, rfl⟩
      refine cutG R17 ?_ ?_
      · replace h := hz
        rcases ib h with ⟨c18, h⟩ | ⟨c18, h⟩
        · obtain ⟨_, c19, h⟩ := bs h
          replace c19 := rqs c19
          simp -implicitDefEqProofs only [go_sem, he0, le0, qe0, pe0, gi7, ko9, i7, c13, hv14, c18, c19]
          refine append_G (o := o9) (ts := [32]) (es := (v8 : List TTerm).map cTTerm) (xs := ([v14.f1] : List TTerm).map cTTerm) (ho := growOK.sub ko9 (by decide)) (hG := by simp -implicitDefEqProofs only [go_sem, he0, le0, qe0, pe0, gi7, ko9, i7, c13, hv14, c18, c19]) (hj := by simp -implicitDefEqProofs only [go_sem]) (he := el94) (hx := by simp -implicitDefEqProofs only [go_sem, he0, le0, qe0, pe0, gi7, ko9, i7, c13, hv14, c18, c19]) (h1 := by simp -implicitDefEqProofs only [go_sem]) (h2 := by simp -implicitDefEqProofs only [go_sem]) (ha := rfl) (hra := rfl) (hb := by simpa using c19) (hbb := by decide) ?_
          intro o20 ko20
          cases h
          simp -implicitDefEqProofs only [go_sem, he0, le0, qe0, pe0, gi7, ko9, i7, c13, hv14, c18, c19, ko20]
          rw [hR17]
          refine ⟨o20, ?_⟩
          simp -implicitDefEqProofs only [go_sem, he0, le0, qe0, pe0, gi7, ko9, i7, c13, hv14, c18, c19, ko20]
        · cases h
          simp -implicitDefEqProofs only [go_sem, he0, le0, qe0, pe0, gi7, ko9, i7, c13, hv14, c18]
          rw [hR17]
          refine ⟨o9, ?_⟩
          simp -implicitDefEqProofs only [go_sem, he0, le0, qe0, pe0, gi7, ko9, i7, c13, hv14, c18]
      · replace h := h; clear hz
        rintro s i
        rw [hR17] at i
        obtain ⟨o16, gi21, ko16, i21⟩ := i
        clear hR17
        try dsimp only at h
        cases h
        simp -implicitDefEqProofs only [go_sem, he0, le0, qe0, pe0, gi7, ko9, i7, c13, hv14, gi21, ko16, i21]
        rw [hI7]
        refine ⟨o16, ?_⟩
        simp -implicitDefEqProofs only [go_sem, he0, le0, qe0, pe0, gi7, ko9, i7, c13, hv14, gi21, ko16, i21, poison_grow (d := d + 1) (ts := [8]) ko16 (by decide)]
    · cases h
      simp -implicitDefEqProofs only [go_sem, he0, le0, qe0, pe0, gi7, ko9, i7, c13]
      rw [hR7]
      first | refine ⟨rfl, o9, ?_⟩ | refine ⟨(), rfl, o9, ?_⟩
      simp -implicitDefEqProofs only [go_sem, he0, le0, qe0, pe0, gi7, ko9, i7, c13]
  · clear hL7 hI7
    intro e s hr7
    rw [hR7] at hr7
    clear hR7
    revert h hr7
    generalize z7 = v11
    intro h hr7
    try dsimp only at h hr7
    obtain ⟨rfl, o12, gi22, ko12, i22⟩ := hr7
    obtain ⟨r23, hr23, h⟩ := bs h
    simp -implicitDefEqProofs only [go_sem, he0, le0, qe0, pe0, gi22, ko12, i22]
    refine call_frz (r' := .tup [.p (.sl (r23.1.map cTTerm)), .p (.sl (r23.2.1.map cii64)), .p (.int .i64 r23.2.2)]) (m_gauss_Solve_ev v11 r23 hr23 (d + 1) empty) (by simp -implicitDefEqProofs only [go_sem, he0, le0, qe0, pe0, gi22, ko12, i22]) rfl (by simp -implicitDefEqProofs only [go_sem]) (by simp -implicitDefEqProofs only [go_sem]) ?_ rfl rfl
    rcases ib h with ⟨c24, h⟩ | ⟨c24, h⟩
    · cases h
      subst hQ
      simp -implicitDefEqProofs only [go_sem, he0, le0, qe0, pe0, gi22, ko12, i22, c24, Try.results25]
    · simp -implicitDefEqProofs only [go_sem, he0, le0, qe0, pe0, gi22, ko12, i22, c24]
      obtain ⟨z33, hL33, h⟩ := bs h
      obtain ⟨I33, hI33⟩ : ∃ I : ((List TRow) × Int × Bool) → St → Prop, I = fun a s => match a with | (v34, v36, v37) => ∃ o35, s.G = fillKey (fillKey (fillKey (cut d G) e0 t0 [.box [.p (.bool v37)]]) (d + 1) 32 (growO o12 32 3 (v11.map cTTerm))) (d + 1) 64 (growO o35 64 4 (v34.map cTRow)) ∧ growOK o35 [64] ∧ s.F 0 = .bp (e0, t0, 0) 0 ∧ s.F 9 = .p (.sl (r23.1.map cTTerm)) ∧ s.F 10 = .p (.sl (r23.2.1.map cii64)) ∧ s.F 12 = growV o35 (d + 1) (v34.map cTRow) ∧ s.F 43 = .p (.sl (a1.map cTRow)) ∧ s.F 44 = .p (.int .i64 (a1.length : Int)) ∧ s.F 45 = .p (.int .i64 v36) ∧ True := ⟨_, rfl⟩
      obtain ⟨R33, hR33⟩ : ∃ R : ((List TRow) × Bool) → GE → St → Prop, R = fun x e s => match x with | (v38, v40) => e = .exit 2 ∧ (∃ o39, s.G = fillKey (fillKey (fillKey (cut d G) e0 t0 [.box [.p (.bool v40)]]) (d + 1) 32 (growO o12 32 3 (v11.map cTTerm))) (d + 1) 64 (growO o39 64 4 (v38.map cTRow)) ∧ growOK o39 [64] ∧ s.F 0 = .bp (e0, t0, 0) 0 ∧ s.F 9 = .p (.sl (r23.1.map cTTerm)) ∧ s.F 10 = .p (.sl (r23.2.1.map cii64)) ∧ s.F 12 = growV o39 (d + 1) (v38.map cTRow) ∧ True) := ⟨_, rfl⟩
      refine lp (ts := [14]) rfl hL33 I33 R33 ?_ ?_ ?_
      · rw [hI33]
        refine ⟨none, ?_⟩
        simp -implicitDefEqProofs only [go_sem, he0, le0, qe0, pe0, gi22, ko12, i22, c24, poison_grow (d := d + 1) (ts := [14]) ko12 (by decide)]
      · clear h hL33
        rintro ⟨v34, v36, v37⟩ y s h i
        rw [hI33] at i
        obtain ⟨o35, gi33, ko35, i33⟩ := i
        replace h : m_bound_engine_solve_L1 a1 r23 (v34, v36, v37) = some y := h
        unfold m_bound_engine_solve_L1 at h
        rcases ib h with ⟨c41, h⟩ | ⟨c41, h⟩
        · obtain ⟨v42, hv42, h⟩ := bs h
          replace hv42 := gis hv42
          simp -implicitDefEqProofs only [go_sem, he0, le0, qe0, pe0, gi22, ko12, i22, c24, gi33, ko35, i33, c41, hv42]
          obtain ⟨⟨v43, v45⟩, hz, h⟩ := bs h
          obtain ⟨R46, hR46⟩ : ∃ R : St → Prop, R = fun s => ∃ o44, s.G = fillKey (fillKey (fillKey (fillKey (cut d G) e0 t0 [.box [.p (.bool v45)]]) (d + 1) 14 [.box [.p (.int .i64 v42.f0), .p (.sl (v42.f1.f0.map cTRat)), .p (.int .i64 v42.f1.f1.f0), .p (.int .i64 v42.f1.f1.f1)]]) (d + 1) 32 (growO o12 32 3 (v11.map cTTerm))) (d + 1) 64 (growO o44 64 4 (v43.map cTRow)) ∧ growOK o44 [64] ∧ s.F 0 = .bp (e0, t0, 0) 0 ∧ s.F 9 = .p (.sl (r23.1.map cTTerm)) ∧ s.F 10 = .p (.sl (r23.2.1.map cii64)) ∧ s.F 12 = growV o44 (d + 1) (v43.map cTRow) ∧ s.F 43 = .p (.sl (a1.map cTRow)) ∧ s.F 44 = .p (.int .i64 (a1.length : Int)) ∧ s.F 45 = .p (.int .i64 v36) ∧ True := ⟨_, rfl⟩
          refine cutG R46 ?_ ?_
          · replace h := hz
            rcases ib h with ⟨c47, h⟩ | ⟨c47, h⟩
            · obtain ⟨r48, hr48, h⟩ := bs h
              simp -implicitDefEqProofs only [go_sem, he0, le0, qe0, pe0, gi22, ko12, i22, c24, gi33, ko35, i33, c41, hv42, c47]
              refine call_frz (r' := .agg [.p (.sl (r48.f0.map cTRat)), .p (.int .i64 r48.f1.f0), .p (.int .i64 r48.f1.f1)]) (m_term_Own_ev v42.f1 r48 hr48 (d + 1) empty) (by simp -implicitDefEqProofs only [go_sem, he0, le0, qe0, pe0, gi22, ko12, i22, c24, gi33, ko35, i33, c41, hv42, c47]) rfl (by simp -implicitDefEqProofs only [go_sem]) (by simp -implicitDefEqProofs only [go_sem]) ?_ rfl rfl
              obtain ⟨r49, hr49, h⟩ := bs h
              simp -implicitDefEqProofs only [go_sem, he0, le0, qe0, pe0, gi22, ko12, i22, c24, gi33, ko35, i33, c41, hv42, c47]
              refine call_drwL (t0 := 999) (r := .agg [.p (.int .i64 r49.1.f0), .p (.sl (r49.1.f1.f0.map cTRat)), .p (.int .i64 r49.1.f1.f1.f0), .p (.int .i64 r49.1.f1.f1.f1)]) [(e0, t0, [.box [.p (.bool r49.2.f0)]])] (fun H => m_bound_engine_plain_ev (⟨v37⟩ : TBound_engine) (⟨v42.f0, r48⟩ : TRow) r23.1 r23.2.1 r49 hr49 (d + 1) _ e0 t0 (Nat.le_succ_of_le he0) (by simp -implicitDefEqProofs only [go_sem, he0, le0, qe0, pe0, gi22, ko12, i22, c24, gi33, ko35, i33, c41, hv42, c47]) ) (by simp -implicitDefEqProofs only [go_sem, he0, le0, qe0, pe0, gi22, ko12, i22, c24, gi33, ko35, i33, c41, hv42, c47]) rfl (by simp -implicitDefEqProofs only [go_sem, he0, le0, qe0, pe0, gi22, ko12, i22, c24, gi33, ko35, i33, c41, hv42, c47]) (by simp -implicitDefEqProofs only [go_sem, he0, le0, qe0, pe0, gi22, ko12, i22, c24, gi33, ko35, i33, c41, hv42, c47]) (by simp -implicitDefEqProofs only [go_sem]) (by simp -implicitDefEqProofs only [go_sem, he0, le0, qe0, pe0, gi22, ko12, i22, c24, gi33, ko35, i33, c41, hv42, c47]) (by simp -implicitDefEqProofs only [go_sem, he0, le0, qe0, pe0, gi22, ko12, i22, c24, gi33, ko35, i33, c41, hv42, c47]) (by simp -implicitDefEqProofs only [go_sem]) (by simp -implicitDefEqProofs only [go_sem]) ?_
              obtain ⟨_, c50, h⟩ := bs h
              replace c50 := rqs c50
              simp -implicitDefEqProofs only [go_sem, he0, le0, qe0, pe0, gi22, ko12, i22, c24, gi33, ko35, i33, c41, hv42, c47, c50, appG_grow (k := 64) ko35, appG_grow_p (k := 64) ko35]
              refine append_G (o := o35) (ts := [64]) (es := (v34 : List TRow).map cTRow) (xs := ([r49.1] : List TRow).map cTRow) (ho := growOK.sub ko35 (by decide)) (hG := by simp -implicitDefEqProofs only [go_sem, he0, le0, qe0, pe0, gi22, ko12, i22, c24, gi33, ko35, i33, c41, hv42, c47, c50]) (hj := by simp -implicitDefEqProofs only [go_sem]) (he := el22) (hx := by simp -implicitDefEqProofs only [go_sem, he0, le0, qe0, pe0, gi22, ko12, i22, c24, gi33, ko35, i33, c41, hv42, c47, c50]) (h1 := by simp -implicitDefEqProofs only [go_sem]) (h2 := by simp -implicitDefEqProofs only [go_sem]) (ha := rfl) (hra := rfl) (hb := by simpa using c50) (hbb := by decide) ?_
              intro o51 ko51
              cases h
              simp -implicitDefEqProofs only [go_sem, he0, le0, qe0, pe0, gi22, ko12, i22, c24, gi33, ko35, i33, c41, hv42, c47, c50, ko51]
              rw [hR46]
              refine ⟨o51, ?_⟩
              simp -implicitDefEqProofs only [go_sem, he0, le0, qe0, pe0, gi22, ko12, i22, c24, gi33, ko35, i33, c41, hv42, c47, c50, ko51]
            · cases h
              simp -implicitDefEqProofs only [go_sem, he0, le0, qe0, pe0, gi22, ko12, i22, c24, gi33, ko35, i33, c41, hv42, c47]
              rw [hR46]
              refine ⟨o35, ?_⟩
              simp -implicitDefEqProofs only [go_sem, he0, le0, qe0, pe0, gi22, ko12, i22, c24, gi33, ko35, i33, c41, hv42, c47]
          · replace h := h; clear hz
            rintro s i
            rw [hR46] at i
            obtain ⟨o44, gi52, ko44, i52⟩ := i
            clear hR46
            try dsimp only at h
            cases h
            simp -implicitDefEqProofs only [go_sem, he0, le0, qe0, pe0, gi22, ko12, i22, c24, gi33, ko35, i33, c41, hv42, gi52, ko44, i52]
            rw [hI33]
            refine ⟨o44, ?_⟩
            simp -implicitDefEqProofs only [go_sem, he0, le0, qe0, pe0, gi22, ko12, i22, c24, gi33, ko35, i33, c41, hv42, gi52, ko44, i52, poison_grow (d := d + 1) (ts := [14]) ko44 (by decide)]
        · cases h
          simp -implicitDefEqProofs only [go_sem, he0, le0, qe0, pe0, gi22, ko12, i22, c24, gi33, ko35, i33, c41]
          rw [hR33]
          first | refine ⟨rfl, o35, ?_⟩ | refine ⟨(), rfl, o35, ?_⟩
          simp -implicitDefEqProofs only [go_sem, he0, le0, qe0, pe0, gi22, ko12, i22, c24, gi33, ko35, i33, c41]
      · clear hL33 hI33
        intro e s hr33
        rw [hR33] at hr33
        clear hR33
        rcases z33 with ⟨v38, v40⟩
        try dsimp only at h hr33
        obtain ⟨rfl, o39, gi53, ko39, i53⟩ := hr33
        simp -implicitDefEqProofs only [go_sem, he0, le0, qe0, pe0, gi22, ko12, i22, c24, gi53, ko39, i53]
        obtain ⟨z64, hL64, h⟩ := bs h
        obtain ⟨I64, hI64⟩ : ∃ I : ((List TRow) × (List TBound_stage) × Int × Bool) → St → Prop, I = fun a s => match a with | (v65, v66, v68, v69) => ∃ o67, s.G = fillKey (fillKey (fillKey (fillKey (cut d G) e0 t0 [.box [.p (.bool v69)]]) (d + 1) 32 (growO o12 32 3 (v11.map cTTerm))) (d + 1) 64 (growO o39 64 4 (v38.map cTRow))) (d + 1) 87 (growO o67 87 2 (v66.map cTBound_stage)) ∧ growOK o67 [87] ∧ s.F 0 = .bp (e0, t0, 0) 0 ∧ s.F 9 = .p (.sl (r23.1.map cTTerm)) ∧ s.F 10 = .p (.sl (r23.2.1.map cii64)) ∧ s.F 12 = .p (.sl (v65.map cTRow)) ∧ s.F 15 = growV o67 (d + 1) (v66.map cTBound_stage) ∧ s.F 16 = .p (.int .i64 v68) ∧ True := ⟨_, rfl⟩
        obtain ⟨R64, hR64⟩ : ∃ R : ((List TRow) × (List TBound_stage) × Bool) → GE → St → Prop, R = fun x e s => match x with | (v70, v71, v73) => e = .exit 4 ∧ (∃ o72, s.G = fillKey (fillKey (fillKey (fillKey (cut d G) e0 t0 [.box [.p (.bool v73)]]) (d + 1) 32 (growO o12 32 3 (v11.map cTTerm))) (d + 1) 64 (growO o39 64 4 (v38.map cTRow))) (d + 1) 87 (growO o72 87 2 (v71.map cTBound_stage)) ∧ growOK o72 [87] ∧ s.F 0 = .bp (e0, t0, 0) 0 ∧ s.F 9 = .p (.sl (r23.1.map cTTerm)) ∧ s.F 10 = .p (.sl (r23.2.1.map cii64)) ∧ s.F 12 = .p (.sl (v70.map cTRow)) ∧ s.F 15 = growV o72 (d + 1) (v71.map cTBound_stage) ∧ True) := ⟨_, rfl⟩
        refine lp (ts := [17, 1000012]) rfl hL64 I64 R64 ?_ ?_ ?_
        · rw [hI64]
          refine ⟨none, ?_⟩
          simp -implicitDefEqProofs only [go_sem, he0, le0, qe0, pe0, gi22, ko12, i22, c24, gi53, ko39, i53, poison_grow (d := d + 1) (ts := [17, 1000012]) ko39 (by decide)]
        · clear h hL64
          rintro ⟨v65, v66, v68, v69⟩ y s h i
          rw [hI64] at i
          obtain ⟨o67, gi64, ko67, i64⟩ := i
          replace h : m_bound_engine_solve_L2 (v65, v66, v68, v69) = some y := h
          unfold m_bound_engine_solve_L2 at h
          simp -implicitDefEqProofs only [go_sem, he0, le0, qe0, pe0, gi22, ko12, i22, c24, gi53, ko39, i53, gi64, ko67, i64]
          obtain ⟨v74, hz, h⟩ := bs h
          obtain ⟨R75, hR75⟩ : ∃ R : St → Prop, R = fun s => s.G = fillKey (fillKey (fillKey (fillKey (cut d G) e0 t0 [.box [.p (.bool v69)]]) (d + 1) 32 (growO o12 32 3 (v11.map cTTerm))) (d + 1) 64 (growO o39 64 4 (v38.map cTRow))) (d + 1) 87 (growO o67 87 2 (v66.map cTBound_stage)) ∧ s.F 0 = .bp (e0, t0, 0) 0 ∧ s.F 9 = .p (.sl (r23.1.map cTTerm)) ∧ s.F 10 = .p (.sl (r23.2.1.map cii64)) ∧ s.F 12 = .p (.sl (v65.map cTRow)) ∧ s.F 15 = growV o67 (d + 1) (v66.map cTBound_stage) ∧ s.F 16 = .p (.int .i64 v68) ∧ s.F 74 = .p (.bool v74) ∧ True := ⟨_, rfl⟩
          refine cutR R75 ?_ ?_
          · replace h := hz
            rcases ib h with ⟨c76, h⟩ | ⟨c76, h⟩
            · cases h
              simp -implicitDefEqProofs only [go_sem, he0, le0, qe0, pe0, gi22, ko12, i22, c24, gi53, ko39, i53, gi64, ko67, i64, c76]
              rw [hR75]
              simp -implicitDefEqProofs only [go_sem, he0, le0, qe0, pe0, gi22, ko12, i22, c24, gi53, ko39, i53, gi64, ko67, i64, c76]
            · cases h
              simp -implicitDefEqProofs only [go_sem, he0, le0, qe0, pe0, gi22, ko12, i22, c24, gi53, ko39, i53, gi64, ko67, i64, c76]
              rw [hR75]
              simp -implicitDefEqProofs only [go_sem, he0, le0, qe0, pe0, gi22, ko12, i22, c24, gi53, ko39, i53, gi64, ko67, i64, c76]
          · replace h := h; clear hz
            rintro s i
            rw [hR75] at i
            obtain ⟨gi77, i77⟩ := i
            clear hR75
            try dsimp only at h
            rcases ib h with ⟨c78, h⟩ | ⟨c78, h⟩
            · obtain ⟨r79, hr79, h⟩ := bs h
              simp -implicitDefEqProofs only [go_sem, he0, le0, qe0, pe0, gi22, ko12, i22, c24, gi53, ko39, i53, gi64, ko67, i64, gi77, i77, c78]
              refine call_open0 (t0 := 999) (r := .tup [.agg [.p (.sl (r79.1.f0.map cTRow)), .p (.sl (r79.1.f1.map cTRow))], .p (.sl (r79.2.1.map cTRow))]) (m_bound_engine_drop_ev (⟨v69⟩ : TBound_engine) v65 v68 r79 hr79 (d + 1) _ e0 t0 (Nat.le_succ_of_le he0) (by simp -implicitDefEqProofs only [go_sem, he0, le0, qe0, pe0, gi22, ko12, i22, c24, gi53, ko39, i53, gi64, ko67, i64, gi77, i77, c78]) ) (by simp -implicitDefEqProofs only [go_sem, he0, le0, qe0, pe0, gi22, ko12, i22, c24, gi53, ko39, i53, gi64, ko67, i64, gi77, i77, c78]) rfl (by simp -implicitDefEqProofs only [go_sem, he0, le0, qe0, pe0, gi22, ko12, i22, c24, gi53, ko39, i53, gi64, ko67, i64, gi77, i77, c78]) (by simp -implicitDefEqProofs only [go_sem, he0, le0, qe0, pe0, gi22, ko12, i22, c24, gi53, ko39, i53, gi64, ko67, i64, gi77, i77, c78]) (by simp -implicitDefEqProofs only [go_sem]) ?_
              obtain ⟨_, c80, h⟩ := bs h
              replace c80 := rqs c80
              simp -implicitDefEqProofs only [go_sem, he0, le0, qe0, pe0, gi22, ko12, i22, c24, gi53, ko39, i53, gi64, ko67, i64, gi77, i77, c78, c80]
              refine append_G (o := o67) (ts := [87]) (es := (v66 : List TBound_stage).map cTBound_stage) (xs := ([r79.1] : List TBound_stage).map cTBound_stage) (ho := growOK.sub ko67 (by decide)) (hG := by simp -implicitDefEqProofs only [go_sem, he0, le0, qe0, pe0, gi22, ko12, i22, c24, gi53, ko39, i53, gi64, ko67, i64, gi77, i77, c78, c80]) (hj := by simp -implicitDefEqProofs only [go_sem]) (he := el99) (hx := by simp -implicitDefEqProofs only [go_sem, he0, le0, qe0, pe0, gi22, ko12, i22, c24, gi53, ko39, i53, gi64, ko67, i64, gi77, i77, c78, c80]) (h1 := by simp -implicitDefEqProofs only [go_sem]) (h2 := by simp -implicitDefEqProofs only [go_sem]) (ha := rfl) (hra := rfl) (hb := by simpa using c80) (hbb := by decide) ?_
              intro o81 ko81
              cases h
              simp -implicitDefEqProofs only [go_sem, he0, le0, qe0, pe0, gi22, ko12, i22, c24, gi53, ko39, i53, gi64, ko67, i64, gi77, i77, c78, c80, ko81]
              rw [hI64]
              refine ⟨o81, ?_⟩
              simp -implicitDefEqProofs only [go_sem, he0, le0, qe0, pe0, gi22, ko12, i22, c24, gi53, ko39, i53, gi64, ko67, i64, gi77, i77, c78, c80, ko81, poison_grow (d := d + 1) (ts := [17, 1000012]) ko81 (by decide), poison_grow (d := d + 1) (ts := [17, 1000012]) ko67 (by decide)]
            · cases h
              simp -implicitDefEqProofs only [go_sem, he0, le0, qe0, pe0, gi22, ko12, i22, c24, gi53, ko39, i53, gi64, ko67, i64, gi77, i77, c78]
              rw [hR64]
              first | refine ⟨rfl, o67, ?_⟩ | refine ⟨(), rfl, o67, ?_⟩
              simp -implicitDefEqProofs only [go_sem, he0, le0, qe0, pe0, gi22, ko12, i22, c24, gi53, ko39, i53, gi64, ko67, i64, gi77, i77, c78]
        · clear hL64 hI64
          intro e s hr64
          rw [hR64] at hr64
          clear hR64
          rcases z64 with ⟨v70, v71, v73⟩
          try dsimp only at h hr64
          obtain ⟨rfl, o72, gi82, ko72, i82⟩ := hr64
          rcases ib h with ⟨c83, h⟩ | ⟨c83, h⟩
          · cases h
            subst hQ
            simp -implicitDefEqProofs only [go_sem, he0, le0, qe0, pe0, gi22, ko12, i22, c24, gi53, ko39, i53, gi82, ko72, i82, c83, Try.results25]
          · obtain ⟨r84, hr84, h⟩ := bs h
            simp -implicitDefEqProofs only [go_sem, he0, le0, qe0, pe0, gi22, ko12, i22, c24, gi53, ko39, i53, gi82, ko72, i82, c83]
            refine call_frz (r' := .p (.bool r84)) (m_slices_ContainsFunc_api_Row_ev v70 (fun x0 => m_bound_engine_solve_1 x0) 40 [] (by simp -implicitDefEqProofs only [go_sem]) (fun x0 r h d => m_bound_engine_solve_1_ev x0 r h d empty) r84 hr84 (d + 1) empty) (by simp -implicitDefEqProofs only [go_sem, he0, le0, qe0, pe0, gi22, ko12, i22, c24, gi53, ko39, i53, gi82, ko72, i82, c83]) rfl (by simp -implicitDefEqProofs only [go_sem]) (by simp -implicitDefEqProofs only [go_sem]) ?_ rfl rfl
            rcases ib h with ⟨c85, h⟩ | ⟨c85, h⟩
            · cases h
              subst hQ
              simp -implicitDefEqProofs only [go_sem, he0, le0, qe0, pe0, gi22, ko12, i22, c24, gi53, ko39, i53, gi82, ko72, i82, c83, c85, Try.results25]
            · obtain ⟨r86, hr86, h⟩ := bs h
              simp -implicitDefEqProofs only [go_sem, he0, le0, qe0, pe0, gi22, ko12, i22, c24, gi53, ko39, i53, gi82, ko72, i82, c83, c85]
              refine call_open (r := .own (r86.1.map cTRat) 2) (r' := .tsl (r86.1.map cTRat) (d + 1, 98, 0)) (os := [.tok (r86.1.map cTRat).length 2]) (m_bound_engine_witness_ev (⟨v73⟩ : TBound_engine) v71 r23.1 r23.2.1 r86 hr86 (d + 1) _ e0 t0 (Nat.le_succ_of_le he0) (by simp -implicitDefEqProofs only [go_sem, he0, le0, qe0, pe0, gi22, ko12, i22, c24, gi53, ko39, i53, gi82, ko72, i82, c83, c85]) ) (by simp -implicitDefEqProofs only [go_sem, he0, le0, qe0, pe0, gi22, ko12, i22, c24, gi53, ko39, i53, gi82, ko72, i82, c83, c85]) rfl (by simp -implicitDefEqProofs only [go_sem, he0, le0, qe0, pe0, gi22, ko12, i22, c24, gi53, ko39, i53, gi82, ko72, i82, c83, c85]) (by simp -implicitDefEqProofs only [go_sem, he0, le0, qe0, pe0, gi22, ko12, i22, c24, gi53, ko39, i53, gi82, ko72, i82, c83, c85]) (by simp -implicitDefEqProofs only [go_sem]) ?_
              rcases ib h with ⟨c87, h⟩ | ⟨c87, h⟩
              · cases h
                subst hQ
                simp -implicitDefEqProofs only [go_sem, he0, le0, qe0, pe0, gi22, ko12, i22, c24, gi53, ko39, i53, gi82, ko72, i82, c83, c85, c87, Try.results25]
              · cases h
                subst hQ
                simp -implicitDefEqProofs only [go_sem, he0, le0, qe0, pe0, gi22, ko12, i22, c24, gi53, ko39, i53, gi82, ko72, i82, c83, c85, c87, Try.results25]
theorem m_bound_Solve_1_ev (a0 : TRow) (r0 : Bool) (h : m_bound_Solve_1 a0 = some r0) (d : Nat) (G : Heap) : Tel Try.prog TB d 23 [.agg ((cTRow a0).map .p)] G (.p (.bool r0)) (G) := by
  unfold m_bound_Solve_1 at h
  refine Tel.intro mix Try.func23 rfl (Nat.le_of_ble_eq_true rfl) {frzAt := fun t => t == 1 || t == 4} (by kernel_rfl) (by kernel_rfl) ?_
  generalize hQ : callPost _ _ _ _ _ = Q
  obtain ⟨r1, hr1, h⟩ := bs h
  simp -implicitDefEqProofs only [go_sem]
  refine call_frz (r' := .p (.bool r1)) (m_bound_right_ev a0 r1 hr1 (d + 1) empty) (by simp -implicitDefEqProofs only [go_sem]) rfl (by simp -implicitDefEqProofs only [go_sem]) (by simp -implicitDefEqProofs only [go_sem]) ?_ rfl rfl
  cases h
  subst hQ
  simp -implicitDefEqProofs only [go_sem, Try.results23]
theorem m_bound_Solve_ev (a0 : List TRow) (r0 : (List TRat) × Int) (h : m_bound_Solve a0 = some r0) (d : Nat) (G : Heap) : Tel Try.prog TB d 13 [.p (.sl (a0.map cTRow))] G (.tup [.p (.sl (r0.1.map cTRat)), .p (.int .i64 r0.2)]) (G) := by
  unfold m_bound_Solve at h
  refine Tel.intro mix Try.func13 rfl (Nat.le_of_ble_eq_true rfl) {openAt := fun t => t == 14, frzAt := fun t => t == 9} (by kernel_rfl) (by kernel_rfl) ?_
  generalize hQ : callPost _ _ _ _ _ = Q
  simp -implicitDefEqProofs only [go_sem]
  obtain ⟨v1, hz, h⟩ := bs h
  obtain ⟨R2, hR2⟩ : ∃ R : St → Prop, R = fun s => s.G = cut d G ∧ s.F 0 = .p (.sl (a0.map cTRow)) ∧ s.F 10 = .p (.bool v1) ∧ True := ⟨_, rfl⟩
  refine cutR R2 ?_ ?_
  · replace h := hz
    rcases ib h with ⟨c3, h⟩ | ⟨c3, h⟩
    · cases h
      simp -implicitDefEqProofs only [go_sem, c3]
      rw [hR2]
      simp -implicitDefEqProofs only [go_sem, c3]
    · obtain ⟨r4, hr4, h⟩ := bs h
      simp -implicitDefEqProofs only [go_sem, c3]
      refine call_frz (r' := .p (.bool r4)) (m_slices_ContainsFunc_api_Row_ev a0 (fun x0 => m_bound_Solve_1 x0) 23 [] (by simp -implicitDefEqProofs only [go_sem]) (fun x0 r h d => m_bound_Solve_1_ev x0 r h d empty) r4 hr4 (d + 1) empty) (by simp -implicitDefEqProofs only [go_sem, c3]) rfl (by simp -implicitDefEqProofs only [go_sem]) (by simp -implicitDefEqProofs only [go_sem]) ?_ rfl rfl
      cases h
      simp -implicitDefEqProofs only [go_sem, c3]
      rw [hR2]
      simp -implicitDefEqProofs only [go_sem, c3]
  · replace h := h; clear hz
    rintro s i
    rw [hR2] at i
    obtain ⟨gi5, i5⟩ := i
    clear hR2
    try dsimp only at h
    rcases ib h with ⟨c6, h⟩ | ⟨c6, h⟩
    · cases h
      subst hQ
      simp -implicitDefEqProofs only [go_sem, gi5, i5, c6, Try.results13]
    · obtain ⟨r7, hr7, h⟩ := bs h
      simp -implicitDefEqProofs only [go_sem, gi5, i5, c6]
      refine call_open0 (t0 := 999) (r := .tup [.p (.sl (r7.1.map cTRat)), .p (.int .i64 r7.2.1)]) (m_bound_engine_solve_ev (⟨false⟩ : TBound_engine) a0 r7 hr7 (d + 1) _ (d + 1) 12 (Nat.le_refl _) (by simp -implicitDefEqProofs only [go_sem, gi5, i5, c6]) ) (by simp -implicitDefEqProofs only [go_sem, gi5, i5, c6]) rfl (by simp -implicitDefEqProofs only [go_sem, gi5, i5, c6]) (by simp -implicitDefEqProofs only [go_sem, gi5, i5, c6]) (by simp -implicitDefEqProofs only [go_sem]) ?_
      cases h
      subst hQ
      simp -implicitDefEqProofs only [go_sem, gi5, i5, c6, Try.results13]
theorem m_bound_never_ev (a0 : List TRow) (a1 : TTerm) (a2 : Int) (r0 : Int) (h : m_bound_never a0 a1 a2 = some r0) (d : Nat) (G : Heap) : Tel Try.prog TB d 28 [.p (.sl (a0.map cTRow)), .agg ((cTTerm a1).map .p), .p (.int .i64 a2)] G (.p (.int .i64 r0)) (G) := by
  unfold m_bound_never at h
  refine Tel.intro mix Try.func28 rfl (Nat.le_of_ble_eq_true rfl) {frzAt := fun t => t == 4 || t == 14 || t == 27, boxAt := fun t => if t = 7 then some 7 else if t = 1000026 then some 21 else none} (by kernel_rfl) (by kernel_rfl) ?_
  generalize hQ : callPost _ _ _ _ _ = Q
  obtain ⟨r1, hr1, h⟩ := bs h
  simp -implicitDefEqProofs only [go_sem]
  refine call_frz (r' := .tup [.agg [.p (.sl (r1.1.f0.map cTRat)), .p (.int .i64 r1.1.f1.f0), .p (.int .i64 r1.1.f1.f1)], .p (.int .i64 r1.2)]) (m_term_Scale_ev a1 (⟨-1, 1⟩ : TRat) r1 hr1 (d + 1) empty) (by simp -implicitDefEqProofs only [go_sem]) rfl (by simp -implicitDefEqProofs only [go_sem]) (by simp -implicitDefEqProofs only [go_sem]) ?_ rfl rfl
  rcases ib h with ⟨c2, h⟩ | ⟨c2, h⟩
  · cases h
    subst hQ
    simp -implicitDefEqProofs only [go_sem, c2, Try.results28]
  · obtain ⟨r3, hr3, h⟩ := bs h
    simp -implicitDefEqProofs only [go_sem, c2]
    refine call_clo (sz := 4) (m_slices_Clone_api_Row_cl a0 r3 hr3 (d + 1) empty) (by simp -implicitDefEqProofs only [go_sem, c2]) rfl (by simp -implicitDefEqProofs only [go_sem]) (by simp -implicitDefEqProofs only [go_sem, c2]) ?_
    intro o4 ko4
    obtain ⟨_, c5, h⟩ := bs h
    replace c5 := rqs c5
    simp -implicitDefEqProofs only [go_sem, c2, ko4, c5, appG_grow (k := 21) ko4, appG_grow_p (k := 21) ko4]
    refine append_G (o := o4) (ts := [21, 26]) (es := (r3 : List TRow).map cTRow) (xs := ([(⟨a2, r1.1⟩ : TRow)] : List TRow).map cTRow) (ho := growOK.sub ko4 (by decide)) (hG := by simp -implicitDefEqProofs only [go_sem, c2, ko4, c5, growO_out (t := 26) ko4 (by decide)]) (hj := by simp -implicitDefEqProofs only [go_sem]) (he := el22) (hx := by simp -implicitDefEqProofs only [go_sem, c2, ko4, c5]) (h1 := by simp -implicitDefEqProofs only [go_sem]) (h2 := by simp -implicitDefEqProofs only [go_sem]) (ha := rfl) (hra := rfl) (hb := by simpa using c5) (hbb := by decide) ?_
    intro o6 ko6
    obtain ⟨r7, hr7, h⟩ := bs h
    simp -implicitDefEqProofs only [go_sem, c2, ko4, c5, ko6]
    refine call_frz (r' := .tup [.p (.sl (r7.1.map cTRat)), .p (.int .i64 r7.2)]) (m_bound_Solve_ev (r3 ++ ([(⟨a2, r1.1⟩ : TRow)])) r7 hr7 (d + 1) empty) (by simp -implicitDefEqProofs only [go_sem, c2, ko4, c5, ko6]) rfl (by simp -implicitDefEqProofs only [go_sem]) (by simp -implicitDefEqProofs only [go_sem]) ?_ rfl rfl
    rcases ib h with ⟨c8, h⟩ | ⟨c8, h⟩
    · cases h
      subst hQ
      simp -implicitDefEqProofs only [go_sem, c2, ko4, c5, ko6, c8, Try.results28]
    · rcases ib h with ⟨c9, h⟩ | ⟨c9, h⟩
      · cases h
        subst hQ
        simp -implicitDefEqProofs only [go_sem, c2, ko4, c5, ko6, c8, c9, Try.results28]
      · cases h
        subst hQ
        simp -implicitDefEqProofs only [go_sem, c2, ko4, c5, ko6, c8, c9, Try.results28]
theorem m_bound_Entails_ev (a0 : List TRow) (a1 : TRow) (r0 : Int) (h : m_bound_Entails a0 a1 = some r0) (d : Nat) (G : Heap) : Tel Try.prog TB d 15 [.p (.sl (a0.map cTRow)), .agg ((cTRow a1).map .p)] G (.p (.int .i64 r0)) (G) := by
  unfold m_bound_Entails at h
  refine Tel.intro mix Try.func15 rfl (Nat.le_of_ble_eq_true rfl) {frzAt := fun t => t == 3 || t == 15 || t == 21 || t == 27 || t == 35 || t == 42} (by kernel_rfl) (by kernel_rfl) ?_
  generalize hQ : callPost _ _ _ _ _ = Q
  rcases ib h with ⟨c1, h⟩ | ⟨c1, h⟩
  · obtain ⟨r2, hr2, h⟩ := bs h
    simp -implicitDefEqProofs only [go_sem, c1]
    refine call_frz (r' := .p (.int .i64 r2)) (m_bound_never_ev a0 a1.f1 2 r2 hr2 (d + 1) empty) (by simp -implicitDefEqProofs only [go_sem, c1]) rfl (by simp -implicitDefEqProofs only [go_sem]) (by simp -implicitDefEqProofs only [go_sem]) ?_ rfl rfl
    cases h
    subst hQ
    simp -implicitDefEqProofs only [go_sem, c1, Try.results15]
  · rcases ib h with ⟨c3, h⟩ | ⟨c3, h⟩
    · obtain ⟨r4, hr4, h⟩ := bs h
      simp -implicitDefEqProofs only [go_sem, c1, c3]
      refine call_frz (r' := .p (.int .i64 r4)) (m_bound_never_ev a0 a1.f1 1 r4 hr4 (d + 1) empty) (by simp -implicitDefEqProofs only [go_sem, c1, c3]) rfl (by simp -implicitDefEqProofs only [go_sem]) (by simp -implicitDefEqProofs only [go_sem]) ?_ rfl rfl
      cases h
      subst hQ
      simp -implicitDefEqProofs only [go_sem, c1, c3, Try.results15]
    · rcases ib h with ⟨c5, h⟩ | ⟨c5, h⟩
      · obtain ⟨r6, hr6, h⟩ := bs h
        simp -implicitDefEqProofs only [go_sem, c1, c3, c5]
        refine call_frz (r' := .p (.int .i64 r6)) (m_bound_never_ev a0 a1.f1 2 r6 hr6 (d + 1) empty) (by simp -implicitDefEqProofs only [go_sem, c1, c3, c5]) rfl (by simp -implicitDefEqProofs only [go_sem]) (by simp -implicitDefEqProofs only [go_sem]) ?_ rfl rfl
        rcases ib h with ⟨c7, h⟩ | ⟨c7, h⟩
        · cases h
          subst hQ
          simp -implicitDefEqProofs only [go_sem, c1, c3, c5, c7, Try.results15]
        · obtain ⟨r8, hr8, h⟩ := bs h
          simp -implicitDefEqProofs only [go_sem, c1, c3, c5, c7]
          refine call_frz (r' := .tup [.agg [.p (.sl (r8.1.f0.map cTRat)), .p (.int .i64 r8.1.f1.f0), .p (.int .i64 r8.1.f1.f1)], .p (.int .i64 r8.2)]) (m_term_Scale_ev a1.f1 (⟨-1, 1⟩ : TRat) r8 hr8 (d + 1) empty) (by simp -implicitDefEqProofs only [go_sem, c1, c3, c5, c7]) rfl (by simp -implicitDefEqProofs only [go_sem]) (by simp -implicitDefEqProofs only [go_sem]) ?_ rfl rfl
          rcases ib h with ⟨c9, h⟩ | ⟨c9, h⟩
          · cases h
            subst hQ
            simp -implicitDefEqProofs only [go_sem, c1, c3, c5, c7, c9, Try.results15]
          · obtain ⟨r10, hr10, h⟩ := bs h
            simp -implicitDefEqProofs only [go_sem, c1, c3, c5, c7, c9]
            refine call_frz (r' := .p (.int .i64 r10)) (m_bound_never_ev a0 r8.1 2 r10 hr10 (d + 1) empty) (by simp -implicitDefEqProofs only [go_sem, c1, c3, c5, c7, c9]) rfl (by simp -implicitDefEqProofs only [go_sem]) (by simp -implicitDefEqProofs only [go_sem]) ?_ rfl rfl
            cases h
            subst hQ
            simp -implicitDefEqProofs only [go_sem, c1, c3, c5, c7, c9, Try.results15]
      · cases h
        subst hQ
        simp -implicitDefEqProofs only [go_sem, c1, c3, c5, Try.results15]
end Go.E
end
section
set_option linter.all false
set_option maxRecDepth 100000
namespace Go.E
open Go Go.Proofs Go.Eng
variable {TB : Nat → Option Obj}
theorem m_slices_Clone_uint32_ca (a0 : List Int) (r0 : List Int) (h : m_slices_Clone_uint32 a0 = some r0) (d : Nat) (G : Heap) : Tel Try.prog TB d 30 [.p (.sl (a0.map ciu32))] G (cloA (r0.map ciu32) 1) G := by
  unfold m_slices_Clone_uint32 at h
  obtain ⟨_, c1, h⟩ := bs h
  replace c1 := rqs c1
  cases h
  refine Tel.intro_nil mix Try.func30 rfl (by decide) {arrAt := fun t => t == 7} m_slices_Clone_uint32_A m_slices_Clone_uint32_B (x := 2) (y := 3) (z := 4) (by decide) (by decide) (by decide) (by kernel_rfl) (by kernel_rfl) (by kernel_rfl) ?_ ?_
  · intro a n m Q w a0 h0 hs h
    have s3 : 3 < a0.tmps.size := by rw [hs]; decide
    refine wp_seq (wp_region ?_)
    show wpOps _ _ _ [0] _ _
    simp only [wpOps, Region.wanted, if_true, List.getElem?_toArray, List.getElem?_cons_zero]
    refine .inl (wp_val (rv := .slice none 0 0) (w' := w) (by simp [execOp, Act.eval]) ?_)
    show Code.wp _ _ _ _ _
    refine wp_seq (wp_seq (wp_region ?_))
    show wpOps _ _ _ [0, 1] _ _
    simp only [wpOps, Region.wanted, if_true, List.getElem?_toArray, List.getElem?_cons_zero, List.getElem?_cons_succ]
    refine .inl (wp_val (rv := .slice a n m) (w' := w) ?_ ?_)
    · have e : (a0.put (some 2) (.slice none 0 0)).tmps.getD 0 undef = .slice a n m := by simpa [Act.put, Array.getD_eq_getD_getElem?] using h0
      show Sem.run _ (pure (Next.value ((a0.put (some 2) (.slice none 0 0)).tmps.getD 0 undef))) w = _
      rw [e]; rfl
    · refine .inl (wp_val (rv := .bool a.isNone) (w' := w) ?_ ?_)
      · have e : ((a0.put (some 2) (.slice none 0 0)).put (some 3) (.slice a n m)).tmps.getD 3 undef = .slice a n m := by simp [Act.put, Array.getD_eq_getD_getElem?, s3]
        have isn := run_equal_slice_nil (P := Try.prog) w 47 44 a n m Try.underlying47
        have e' : ((a0.put (some 2) (.slice none 0 0)).put (some 3) (.slice a n m)).eval (.tmp 3) = .slice a n m := e
        simp only [execOp, e']
        simp [Act.eval, binOp, isn, eqGuard]
      · exact h
  · intro b hb
    show gwp _ _ _ _ m_slices_Clone_uint32_A _ _
    simp only [m_slices_Clone_uint32_A, m_slices_Clone_uint32_B, Try.f30]
    by_cases he : a0 = []
    · subst he
      cases b
      · simp -implicitDefEqProofs only [go_sem]
        refine append_nil0 el47 ?_ rfl rfl
        simp -implicitDefEqProofs only [go_sem, Try.results30, cloA_nil]
      · simp -implicitDefEqProofs only [go_sem, Try.results30, cloA_nil]
    · have hne : a0.map ciu32 ≠ [] := by simpa using he
      rw [cloA_ne hne]
      cases b
      · simp -implicitDefEqProofs only [go_sem]
        refine append_arr_new (n := 1) (es := []) (xs := a0.map ciu32) el47 (by simp -implicitDefEqProofs only [go_sem]) rfl sizes_nil (by simp -implicitDefEqProofs only [go_sem]) (by simp; omega) hne (by simp -implicitDefEqProofs only [go_sem]) ?_ rfl
        simp -implicitDefEqProofs only [go_sem, Try.results30, List.length_nil, Nat.zero_add]
      · exact absurd (by simpa using hb rfl) he
theorem m_ref15_frac_ev (a0 : Int) (a1 : Int) (r0 : TRat) (h : m_ref15_frac a0 a1 = some r0) (d : Nat) (G : Heap) : Tel Try.prog TB d 32 [.p (.int .i64 a0), .p (.int .i64 a1)] G (.agg ((cTRat r0).map .p)) (G) := by
  unfold m_ref15_frac at h
  refine Tel.intro mix Try.func32 rfl (Nat.le_of_ble_eq_true rfl) {} (by kernel_rfl) (by kernel_rfl) ?_
  generalize hQ : callPost _ _ _ _ _ = Q
  cases h
  subst hQ
  simp -implicitDefEqProofs only [go_sem, Try.results32]
theorem m_ref15_Own_ev  (r0 : TPerm) (h : m_ref15_Own  = some r0) (d : Nat) (G : Heap) : Tel Try.prog TB d 18 [] G (.agg ((cTPerm r0).map .p)) (G) := by
  unfold m_ref15_Own at h
  refine Tel.intro mix Try.func18 rfl (Nat.le_of_ble_eq_true rfl) {frzAt := fun t => t == 1} (by kernel_rfl) (by kernel_rfl) ?_
  generalize hQ : callPost _ _ _ _ _ = Q
  obtain ⟨r1, hr1, h⟩ := bs h
  simp -implicitDefEqProofs only [go_sem]
  refine call_frz (r' := .agg [.p (.int .i64 r1.f0), .p (.int .i64 r1.f1)]) (m_ref15_frac_ev 1 1 r1 hr1 (d + 1) empty) (by simp -implicitDefEqProofs only [go_sem]) rfl (by simp -implicitDefEqProofs only [go_sem]) (by simp -implicitDefEqProofs only [go_sem]) ?_ rfl rfl
  cases h
  subst hQ
  simp -implicitDefEqProofs only [go_sem, Try.results18]
theorem m_perm_one_ev  (r0 : TRat) (h : m_perm_one  = some r0) (d : Nat) (G : Heap) : Tel Try.prog TB d 88 [] G (.agg ((cTRat r0).map .p)) (G) := by
  unfold m_perm_one at h
  refine Tel.intro mix Try.func88 rfl (Nat.le_of_ble_eq_true rfl) {} (by kernel_rfl) (by kernel_rfl) ?_
  generalize hQ : callPost _ _ _ _ _ = Q
  cases h
  subst hQ
  simp -implicitDefEqProofs only [go_sem, Try.results88]
theorem m_perm_half_ev  (r0 : TRat) (h : m_perm_half  = some r0) (d : Nat) (G : Heap) : Tel Try.prog TB d 84 [] G (.agg ((cTRat r0).map .p)) (G) := by
  unfold m_perm_half at h
  refine Tel.intro mix Try.func84 rfl (Nat.le_of_ble_eq_true rfl) {} (by kernel_rfl) (by kernel_rfl) ?_
  generalize hQ : callPost _ _ _ _ _ = Q
  cases h
  subst hQ
  simp -implicitDefEqProofs only [go_sem, Try.results84]
theorem m_perm_left_ev (a0 : Int) (a1 : Int) (r0 : Int × Bool) (h : m_perm_left a0 a1 = some r0) (d : Nat) (G : Heap) : Tel Try.prog TB d 106 [.p (.int .i64 a0), .p (.int .i64 a1)] G (.tup [.p (.int .i64 r0.1), .p (.bool r0.2)]) (G) := by
  unfold m_perm_left at h
  refine Tel.intro mix Try.func106 rfl (Nat.le_of_ble_eq_true rfl) {} (by kernel_rfl) (by kernel_rfl) ?_
  generalize hQ : callPost _ _ _ _ _ = Q
  simp -implicitDefEqProofs only [go_sem]
  obtain ⟨v1, hz, h⟩ := bs h
  obtain ⟨R2, hR2⟩ : ∃ R : St → Prop, R = fun s => s.G = cut d G ∧ s.F 0 = .p (.int .i64 a0) ∧ s.F 1 = .p (.int .i64 a1) ∧ s.F 6 = .p (.bool v1) ∧ True := ⟨_, rfl⟩
  refine cutR R2 ?_ ?_
  · replace h := hz
    rcases ib h with ⟨c3, h⟩ | ⟨c3, h⟩
    · cases h
      simp -implicitDefEqProofs only [go_sem, c3]
      rw [hR2]
      simp -implicitDefEqProofs only [go_sem, c3]
    · cases h
      simp -implicitDefEqProofs only [go_sem, c3]
      rw [hR2]
      simp -implicitDefEqProofs only [go_sem, c3]
  · replace h := h; clear hz
    rintro s i
    rw [hR2] at i
    obtain ⟨gi4, i4⟩ := i
    clear hR2
    try dsimp only at h
    rcases ib h with ⟨c5, h⟩ | ⟨c5, h⟩
    · cases h
      subst hQ
      simp -implicitDefEqProofs only [go_sem, gi4, i4, c5, Try.results106]
    · simp -implicitDefEqProofs only [go_sem, gi4, i4, c5]
      obtain ⟨v6, hz, h⟩ := bs h
      obtain ⟨R7, hR7⟩ : ∃ R : St → Prop, R = fun s => s.G = cut d G ∧ s.F 0 = .p (.int .i64 a0) ∧ s.F 1 = .p (.int .i64 a1) ∧ s.F 13 = .p (.bool v6) ∧ True := ⟨_, rfl⟩
      refine cutR R7 ?_ ?_
      · replace h := hz
        rcases ib h with ⟨c8, h⟩ | ⟨c8, h⟩
        · cases h
          simp -implicitDefEqProofs only [go_sem, gi4, i4, c5, c8]
          rw [hR7]
          simp -implicitDefEqProofs only [go_sem, gi4, i4, c5, c8]
        · cases h
          simp -implicitDefEqProofs only [go_sem, gi4, i4, c5, c8]
          rw [hR7]
          simp -implicitDefEqProofs only [go_sem, gi4, i4, c5, c8]
      · replace h := h; clear hz
        rintro s i
        rw [hR7] at i
        obtain ⟨gi9, i9⟩ := i
        clear hR7
        try dsimp only at h
        rcases ib h with ⟨c10, h⟩ | ⟨c10, h⟩
        · cases h
          subst hQ
          simp -implicitDefEqProofs only [go_sem, gi4, i4, c5, gi9, i9, c10, Try.results106]
        · simp -implicitDefEqProofs only [go_sem, gi4, i4, c5, gi9, i9, c10]
          obtain ⟨v11, hz, h⟩ := bs h
          obtain ⟨R12, hR12⟩ : ∃ R : St → Prop, R = fun s => s.G = cut d G ∧ s.F 0 = .p (.int .i64 a0) ∧ s.F 1 = .p (.int .i64 a1) ∧ s.F 20 = .p (.bool v11) ∧ True := ⟨_, rfl⟩
          refine cutR R12 ?_ ?_
          · replace h := hz
            rcases ib h with ⟨c13, h⟩ | ⟨c13, h⟩
            · cases h
              simp -implicitDefEqProofs only [go_sem, gi4, i4, c5, gi9, i9, c10, c13]
              rw [hR12]
              simp -implicitDefEqProofs only [go_sem, gi4, i4, c5, gi9, i9, c10, c13]
            · cases h
              simp -implicitDefEqProofs only [go_sem, gi4, i4, c5, gi9, i9, c10, c13]
              rw [hR12]
              simp -implicitDefEqProofs only [go_sem, gi4, i4, c5, gi9, i9, c10, c13]
          · replace h := h; clear hz
            rintro s i
            rw [hR12] at i
            obtain ⟨gi14, i14⟩ := i
            clear hR12
            try dsimp only at h
            rcases ib h with ⟨c15, h⟩ | ⟨c15, h⟩
            · cases h
              subst hQ
              simp -implicitDefEqProofs only [go_sem, gi4, i4, c5, gi9, i9, c10, gi14, i14, c15, Try.results106]
            · simp -implicitDefEqProofs only [go_sem, gi4, i4, c5, gi9, i9, c10, gi14, i14, c15]
              obtain ⟨v16, hz, h⟩ := bs h
              obtain ⟨R17, hR17⟩ : ∃ R : St → Prop, R = fun s => s.G = cut d G ∧ s.F 0 = .p (.int .i64 a0) ∧ s.F 1 = .p (.int .i64 a1) ∧ s.F 27 = .p (.bool v16) ∧ True := ⟨_, rfl⟩
              refine cutR R17 ?_ ?_
              · replace h := hz
                rcases ib h with ⟨c18, h⟩ | ⟨c18, h⟩
                · cases h
                  simp -implicitDefEqProofs only [go_sem, gi4, i4, c5, gi9, i9, c10, gi14, i14, c15, c18]
                  rw [hR17]
                  simp -implicitDefEqProofs only [go_sem, gi4, i4, c5, gi9, i9, c10, gi14, i14, c15, c18]
                · cases h
                  simp -implicitDefEqProofs only [go_sem, gi4, i4, c5, gi9, i9, c10, gi14, i14, c15, c18]
                  rw [hR17]
                  simp -implicitDefEqProofs only [go_sem, gi4, i4, c5, gi9, i9, c10, gi14, i14, c15, c18]
              · replace h := h; clear hz
                rintro s i
                rw [hR17] at i
                obtain ⟨gi19, i19⟩ := i
                clear hR17
                try dsimp only at h
                simp -implicitDefEqProofs only [go_sem, gi4, i4, c5, gi9, i9, c10, gi14, i14, c15, gi19, i19]
                obtain ⟨v20, hz, h⟩ := bs h
                obtain ⟨R21, hR21⟩ : ∃ R : St → Prop, R = fun s => s.G = cut d G ∧ s.F 0 = .p (.int .i64 a0) ∧ s.F 1 = .p (.int .i64 a1) ∧ s.F 27 = .p (.bool v20) ∧ True := ⟨_, rfl⟩
                refine cutG R21 ?_ ?_
                · replace h := hz
                  rcases ib h with ⟨c22, h⟩ | ⟨c22, h⟩
                  · cases h
                    simp -implicitDefEqProofs only [go_sem, gi4, i4, c5, gi9, i9, c10, gi14, i14, c15, gi19, i19, c22]
                    rw [hR21]
                    simp -implicitDefEqProofs only [go_sem, gi4, i4, c5, gi9, i9, c10, gi14, i14, c15, gi19, i19, c22]
                  · simp -implicitDefEqProofs only [go_sem, gi4, i4, c5, gi9, i9, c10, gi14, i14, c15, gi19, i19, c22]
                    obtain ⟨v23, hz, h⟩ := bs h
                    obtain ⟨R24, hR24⟩ : ∃ R : St → Prop, R = fun s => s.G = cut d G ∧ s.F 0 = .p (.int .i64 a0) ∧ s.F 1 = .p (.int .i64 a1) ∧ s.F 27 = .p (.bool v23) ∧ True := ⟨_, rfl⟩
                    refine cutR R24 ?_ ?_
                    · replace h := hz
                      rcases ib h with ⟨c25, h⟩ | ⟨c25, h⟩
                      · cases h
                        simp -implicitDefEqProofs only [go_sem, gi4, i4, c5, gi9, i9, c10, gi14, i14, c15, gi19, i19, c22, c25]
                        rw [hR24]
                        simp -implicitDefEqProofs only [go_sem, gi4, i4, c5, gi9, i9, c10, gi14, i14, c15, gi19, i19, c22, c25]
                      · cases h
                        simp -implicitDefEqProofs only [go_sem, gi4, i4, c5, gi9, i9, c10, gi14, i14, c15, gi19, i19, c22, c25]
                        rw [hR24]
                        simp -implicitDefEqProofs only [go_sem, gi4, i4, c5, gi9, i9, c10, gi14, i14, c15, gi19, i19, c22, c25]
                    · replace h := h; clear hz
                      rintro s i
                      rw [hR24] at i
                      obtain ⟨gi26, i26⟩ := i
                      clear hR24
                      try dsimp only at h
                      cases h
                      simp -implicitDefEqProofs only [go_sem, gi4, i4, c5, gi9, i9, c10, gi14, i14, c15, gi19, i19, c22, gi26, i26]
                      rw [hR21]
                      simp -implicitDefEqProofs only [go_sem, gi4, i4, c5, gi9, i9, c10, gi14, i14, c15, gi19, i19, c22, gi26, i26]
                · replace h := h; clear hz
                  rintro s i
                  rw [hR21] at i
                  obtain ⟨gi27, i27⟩ := i
                  clear hR21
                  try dsimp only at h
                  rcases ib h with ⟨c28, h⟩ | ⟨c28, h⟩
                  · cases h
                    subst hQ
                    simp -implicitDefEqProofs only [go_sem, gi4, i4, c5, gi9, i9, c10, gi14, i14, c15, gi19, i19, gi27, i27, c28, Try.results106]
                  · simp -implicitDefEqProofs only [go_sem, gi4, i4, c5, gi9, i9, c10, gi14, i14, c15, gi19, i19, gi27, i27, c28]
                    obtain ⟨v29, hz, h⟩ := bs h
                    obtain ⟨R30, hR30⟩ : ∃ R : St → Prop, R = fun s => s.G = cut d G ∧ s.F 0 = .p (.int .i64 a0) ∧ s.F 1 = .p (.int .i64 a1) ∧ s.F 41 = .p (.bool v29) ∧ True := ⟨_, rfl⟩
                    refine cutR R30 ?_ ?_
                    · replace h := hz
                      rcases ib h with ⟨c31, h⟩ | ⟨c31, h⟩
                      · cases h
                        simp -implicitDefEqProofs only [go_sem, gi4, i4, c5, gi9, i9, c10, gi14, i14, c15, gi19, i19, gi27, i27, c28, c31]
                        rw [hR30]
                        simp -implicitDefEqProofs only [go_sem, gi4, i4, c5, gi9, i9, c10, gi14, i14, c15, gi19, i19, gi27, i27, c28, c31]
                      · cases h
                        simp -implicitDefEqProofs only [go_sem, gi4, i4, c5, gi9, i9, c10, gi14, i14, c15, gi19, i19, gi27, i27, c28, c31]
                        rw [hR30]
                        simp -implicitDefEqProofs only [go_sem, gi4, i4, c5, gi9, i9, c10, gi14, i14, c15, gi19, i19, gi27, i27, c28, c31]
                    · replace h := h; clear hz
                      rintro s i
                      rw [hR30] at i
                      obtain ⟨gi32, i32⟩ := i
                      clear hR30
                      try dsimp only at h
                      simp -implicitDefEqProofs only [go_sem, gi4, i4, c5, gi9, i9, c10, gi14, i14, c15, gi19, i19, gi27, i27, c28, gi32, i32]
                      obtain ⟨v33, hz, h⟩ := bs h
                      obtain ⟨R34, hR34⟩ : ∃ R : St → Prop, R = fun s => s.G = cut d G ∧ s.F 0 = .p (.int .i64 a0) ∧ s.F 41 = .p (.bool v33) ∧ True := ⟨_, rfl⟩
                      refine cutG R34 ?_ ?_
                      · replace h := hz
                        rcases ib h with ⟨c35, h⟩ | ⟨c35, h⟩
                        · cases h
                          simp -implicitDefEqProofs only [go_sem, gi4, i4, c5, gi9, i9, c10, gi14, i14, c15, gi19, i19, gi27, i27, c28, gi32, i32, c35]
                          rw [hR34]
                          simp -implicitDefEqProofs only [go_sem, gi4, i4, c5, gi9, i9, c10, gi14, i14, c15, gi19, i19, gi27, i27, c28, gi32, i32, c35]
                        · rcases ib h with ⟨c36, h⟩ | ⟨c36, h⟩
                          · cases h
                            simp -implicitDefEqProofs only [go_sem, gi4, i4, c5, gi9, i9, c10, gi14, i14, c15, gi19, i19, gi27, i27, c28, gi32, i32, c35, c36]
                            rw [hR34]
                            simp -implicitDefEqProofs only [go_sem, gi4, i4, c5, gi9, i9, c10, gi14, i14, c15, gi19, i19, gi27, i27, c28, gi32, i32, c35, c36]
                          · cases h
                            simp -implicitDefEqProofs only [go_sem, gi4, i4, c5, gi9, i9, c10, gi14, i14, c15, gi19, i19, gi27, i27, c28, gi32, i32, c35, c36]
                            rw [hR34]
                            simp -implicitDefEqProofs only [go_sem, gi4, i4, c5, gi9, i9, c10, gi14, i14, c15, gi19, i19, gi27, i27, c28, gi32, i32, c35, c36]
                      · replace h := h; clear hz
                        rintro s i
                        rw [hR34] at i
                        obtain ⟨gi37, i37⟩ := i
                        clear hR34
                        try dsimp only at h
                        rcases ib h with ⟨c38, h⟩ | ⟨c38, h⟩
                        · cases h
                          subst hQ
                          simp -implicitDefEqProofs only [go_sem, gi4, i4, c5, gi9, i9, c10, gi14, i14, c15, gi19, i19, gi27, i27, c28, gi32, i32, gi37, i37, c38, Try.results106]
                        · cases h
                          subst hQ
                          simp -implicitDefEqProofs only [go_sem, gi4, i4, c5, gi9, i9, c10, gi14, i14, c15, gi19, i19, gi27, i27, c28, gi32, i32, gi37, i37, c38, Try.results106]
theorem m_perm_parts_ev (a0 : TRat) (a1 : TRat) (r0 : TRat × TRat × Int) (h : m_perm_parts a0 a1 = some r0) (d : Nat) (G : Heap) : Tel Try.prog TB d 107 [.agg ((cTRat a0).map .p), .agg ((cTRat a1).map .p)] G (.tup [.agg ((cTRat r0.1).map .p), .agg ((cTRat r0.2.1).map .p), .p (.int .i64 r0.2.2)]) (G) := by
  unfold m_perm_parts at h
  refine Tel.intro mix Try.func107 rfl (Nat.le_of_ble_eq_true rfl) {frzAt := fun t => t == 2 || t == 3 || t == 12 || t == 14 || t == 25 || t == 36, boxAt := fun t => if t = 3 then some 900003 else if t = 4 then some 4 else if t = 5 then some 5 else if t = 7 then some 7 else if t = 9 then some 9 else if t = 10 then some 10 else none} (by kernel_rfl) (by kernel_rfl) ?_
  generalize hQ : callPost _ _ _ _ _ = Q
  obtain ⟨r1, hr1, h⟩ := bs h
  simp -implicitDefEqProofs only [go_sem]
  refine call_frz (r' := .agg [.p (.int .i64 r1.f0), .p (.int .i64 r1.f1)]) (args := []) (caps := []) (m_perm_one_ev  r1 hr1 (d + 1) empty) (wkRs_refl []) rfl (by simp -implicitDefEqProofs only [go_sem]) (by simp -implicitDefEqProofs only [go_sem]) ?_ rfl rfl
  obtain ⟨r2, hr2, h⟩ := bs h
  simp -implicitDefEqProofs only [go_sem]
  refine call_frz (r' := .tup [.agg [.p (.int .i64 r2.1.f0), .p (.int .i64 r2.1.f1)], .p (.int .i64 r2.2)]) (m_rat_Sub_ev r1 a1 r2 hr2 (d + 1) empty) (by simp -implicitDefEqProofs only [go_sem]) rfl (by simp -implicitDefEqProofs only [go_sem]) (by simp -implicitDefEqProofs only [go_sem]) ?_ rfl rfl
  rcases ib h with ⟨c3, h⟩ | ⟨c3, h⟩
  · cases h
    subst hQ
    simp -implicitDefEqProofs only [go_sem, c3, Try.results107]
  · obtain ⟨r4, hr4, h⟩ := bs h
    simp -implicitDefEqProofs only [go_sem, c3]
    refine call_frz (r' := .tup [.agg [.p (.int .i64 r4.1.f0), .p (.int .i64 r4.1.f1)], .p (.int .i64 r4.2)]) (m_rat_Mul_ev a0 r2.1 r4 hr4 (d + 1) empty) (by simp -implicitDefEqProofs only [go_sem, c3]) rfl (by simp -implicitDefEqProofs only [go_sem]) (by simp -implicitDefEqProofs only [go_sem]) ?_ rfl rfl
    rcases ib h with ⟨c5, h⟩ | ⟨c5, h⟩
    · cases h
      subst hQ
      simp -implicitDefEqProofs only [go_sem, c3, c5, Try.results107]
    · obtain ⟨r6, hr6, h⟩ := bs h
      simp -implicitDefEqProofs only [go_sem, c3, c5]
      refine call_frz (r' := .tup [.agg [.p (.int .i64 r6.1.f0), .p (.int .i64 r6.1.f1)], .p (.int .i64 r6.2)]) (m_rat_Mul_ev a0 a1 r6 hr6 (d + 1) empty) (by simp -implicitDefEqProofs only [go_sem, c3, c5]) rfl (by simp -implicitDefEqProofs only [go_sem]) (by simp -implicitDefEqProofs only [go_sem]) ?_ rfl rfl
      cases h
      subst hQ
      simp -implicitDefEqProofs only [go_sem, c3, c5, Try.results107]
theorem m_perm_Split_ev (a0 : TPerm) (a1 : Int) (a2 : TRat) (a3 : Int) (r0 : TPerm × TPerm × Int) (h : m_perm_Split a0 a1 a2 a3 = some r0) (d : Nat) (G : Heap) : Tel Try.prog TB d 83 [.agg ((cTPerm a0).map .p), .p (.int .i64 a1), .agg ((cTRat a2).map .p), .p (.int .u32 a3)] G (.tup [.agg ((cTPerm r0.1).map .p), .agg ((cTPerm r0.2.1).map .p), .p (.int .i64 r0.2.2)]) (G) := by
  unfold m_perm_Split at h
  refine Tel.intro mix Try.func83 rfl (Nat.le_of_ble_eq_true rfl) {frzAt := fun t => t == 4 || t == 6 || t == 21 || t == 36 || t == 41 || t == 68, boxAt := fun t => if t = 8 then some 8 else if t = 9 then some 9 else if t = 14 then some 14 else if t = 15 then some 15 else if t = 83 then some 900083 else if t = 89 then some 900089 else none} (by kernel_rfl) (by kernel_rfl) ?_
  generalize hQ : callPost _ _ _ _ _ = Q
  obtain ⟨r1, hr1, h⟩ := bs h
  simp -implicitDefEqProofs only [go_sem]
  refine call_frz (r' := .tup [.p (.int .i64 r1.1), .p (.bool r1.2)]) (m_perm_left_ev a0.f0 a1 r1 hr1 (d + 1) empty) (by simp -implicitDefEqProofs only [go_sem]) rfl (by simp -implicitDefEqProofs only [go_sem]) (by simp -implicitDefEqProofs only [go_sem]) ?_ rfl rfl
  simp -implicitDefEqProofs only [go_sem]
  obtain ⟨v2, hz, h⟩ := bs h
  obtain ⟨R3, hR3⟩ : ∃ R : St → Prop, R = fun s => s.G = fillKey (fillKey (cut d G) (d + 1) 8 [.box [.p (.int .i64 0), .p (.int .i64 0), .p (.int .i64 0), .p (.int .i64 0), .p (.int .u32 0)]]) (d + 1) 9 [.box [.p (.int .i64 0), .p (.int .i64 0), .p (.int .i64 0), .p (.int .i64 0), .p (.int .u32 0)]] ∧ s.F 1 = .p (.int .i64 a1) ∧ s.F 3 = .p (.int .u32 a3) ∧ s.F 4 = .ep (cTPerm a0) 0 ∧ s.F 6 = .ep (cTRat a2) 0 ∧ s.F 8 = .bp (d + 1, 8, 0) 0 ∧ s.F 9 = .bp (d + 1, 9, 0) 0 ∧ s.F 11 = .p (.int .i64 r1.1) ∧ s.F 12 = .p (.bool r1.2) ∧ s.F 13 = .p (.bool v2) ∧ True := ⟨_, rfl⟩
  refine cutR R3 ?_ ?_
  · replace h := hz
    rcases ib h with ⟨c4, h⟩ | ⟨c4, h⟩
    · cases h
      simp -implicitDefEqProofs only [go_sem, c4]
      rw [hR3]
      simp -implicitDefEqProofs only [go_sem, c4]
    · cases h
      simp -implicitDefEqProofs only [go_sem, c4]
      rw [hR3]
      simp -implicitDefEqProofs only [go_sem, c4]
  · replace h := h; clear hz
    rintro s i
    rw [hR3] at i
    obtain ⟨gi5, i5⟩ := i
    clear hR3
    try dsimp only at h
    simp -implicitDefEqProofs only [go_sem, gi5, i5]
    obtain ⟨v6, hz, h⟩ := bs h
    obtain ⟨R7, hR7⟩ : ∃ R : St → Prop, R = fun s => s.G = fillKey (fillKey (cut d G) (d + 1) 8 [.box [.p (.int .i64 0), .p (.int .i64 0), .p (.int .i64 0), .p (.int .i64 0), .p (.int .u32 0)]]) (d + 1) 9 [.box [.p (.int .i64 0), .p (.int .i64 0), .p (.int .i64 0), .p (.int .i64 0), .p (.int .u32 0)]] ∧ s.F 1 = .p (.int .i64 a1) ∧ s.F 3 = .p (.int .u32 a3) ∧ s.F 4 = .ep (cTPerm a0) 0 ∧ s.F 6 = .ep (cTRat a2) 0 ∧ s.F 8 = .bp (d + 1, 8, 0) 0 ∧ s.F 9 = .bp (d + 1, 9, 0) 0 ∧ s.F 11 = .p (.int .i64 r1.1) ∧ s.F 13 = .p (.bool v2) ∧ s.F 61 = .p (.bool v6) ∧ True := ⟨_, rfl⟩
    refine cutR R7 ?_ ?_
    · replace h := hz
      rcases ib h with ⟨c8, h⟩ | ⟨c8, h⟩
      · cases h
        simp -implicitDefEqProofs only [go_sem, gi5, i5, c8]
        rw [hR7]
        simp -implicitDefEqProofs only [go_sem, gi5, i5, c8]
      · obtain ⟨r9, hr9, h⟩ := bs h
        simp -implicitDefEqProofs only [go_sem, gi5, i5, c8]
        refine call_frz (r' := .p (.bool r9)) (m_rat_Right_ev a0.f1 r9 hr9 (d + 1) empty) (by simp -implicitDefEqProofs only [go_sem, gi5, i5, c8]) rfl (by simp -implicitDefEqProofs only [go_sem]) (by simp -implicitDefEqProofs only [go_sem]) ?_ rfl rfl
        rcases ib h with ⟨c10, h⟩ | ⟨c10, h⟩
        · cases h
          simp -implicitDefEqProofs only [go_sem, gi5, i5, c8, c10]
          rw [hR7]
          simp -implicitDefEqProofs only [go_sem, gi5, i5, c8, c10]
        · obtain ⟨r11, hr11, h⟩ := bs h
          simp -implicitDefEqProofs only [go_sem, gi5, i5, c8, c10]
          refine call_frz (r' := .p (.bool r11)) (m_rat_Right_ev a2 r11 hr11 (d + 1) empty) (by simp -implicitDefEqProofs only [go_sem, gi5, i5, c8, c10]) rfl (by simp -implicitDefEqProofs only [go_sem]) (by simp -implicitDefEqProofs only [go_sem]) ?_ rfl rfl
          rcases ib h with ⟨c12, h⟩ | ⟨c12, h⟩
          · cases h
            simp -implicitDefEqProofs only [go_sem, gi5, i5, c8, c10, c12]
            rw [hR7]
            simp -implicitDefEqProofs only [go_sem, gi5, i5, c8, c10, c12]
          · rcases ib h with ⟨c13, h⟩ | ⟨c13, h⟩
            · cases h
              simp -implicitDefEqProofs only [go_sem, gi5, i5, c8, c10, c12, c13]
              rw [hR7]
              simp -implicitDefEqProofs only [go_sem, gi5, i5, c8, c10, c12, c13]
            · rcases ib h with ⟨c14, h⟩ | ⟨c14, h⟩
              · cases h
                simp -implicitDefEqProofs only [go_sem, gi5, i5, c8, c10, c12, c13, c14]
                rw [hR7]
                simp -implicitDefEqProofs only [go_sem, gi5, i5, c8, c10, c12, c13, c14]
              · cases h
                simp -implicitDefEqProofs only [go_sem, gi5, i5, c8, c10, c12, c13, c14]
                rw [hR7]
                simp -implicitDefEqProofs only [go_sem, gi5, i5, c8, c10, c12, c13, c14]
    · replace h := h; clear hz
      rintro s i
      rw [hR7] at i
      obtain ⟨gi15, i15⟩ := i
      clear hR7
      try dsimp only at h
      rcases ib h with ⟨c16, h⟩ | ⟨c16, h⟩
      · cases h
        subst hQ
        simp -implicitDefEqProofs only [go_sem, gi5, i5, gi15, i15, c16, Try.results83]
      · obtain ⟨r17, hr17, h⟩ := bs h
        simp -implicitDefEqProofs only [go_sem, gi5, i5, gi15, i15, c16]
        refine call_frz (r' := .tup [.agg [.p (.int .i64 r17.1.f0), .p (.int .i64 r17.1.f1)], .agg [.p (.int .i64 r17.2.1.f0), .p (.int .i64 r17.2.1.f1)], .p (.int .i64 r17.2.2)]) (m_perm_parts_ev a0.f1 a2 r17 hr17 (d + 1) empty) (by simp -implicitDefEqProofs only [go_sem, gi5, i5, gi15, i15, c16]) rfl (by simp -implicitDefEqProofs only [go_sem]) (by simp -implicitDefEqProofs only [go_sem]) ?_ rfl rfl
        rcases ib h with ⟨c18, h⟩ | ⟨c18, h⟩
        · cases h
          subst hQ
          simp -implicitDefEqProofs only [go_sem, gi5, i5, gi15, i15, c16, c18, Try.results83]
        · simp -implicitDefEqProofs only [go_sem, gi5, i5, gi15, i15, c16, c18]
          obtain ⟨v19, hz, h⟩ := bs h
          obtain ⟨R20, hR20⟩ : ∃ R : St → Prop, R = fun s => s.G = fillKey (fillKey (fillKey (fillKey (cut d G) (d + 1) 8 [.box [.p (.int .i64 0), .p (.int .i64 0), .p (.int .i64 0), .p (.int .i64 0), .p (.int .u32 0)]]) (d + 1) 9 [.box [.p (.int .i64 0), .p (.int .i64 0), .p (.int .i64 0), .p (.int .i64 0), .p (.int .u32 0)]]) (d + 1) 14 [.box [.p (.int .i64 r17.1.f0), .p (.int .i64 r17.1.f1)]]) (d + 1) 15 [.box [.p (.int .i64 r17.2.1.f0), .p (.int .i64 r17.2.1.f1)]] ∧ s.F 1 = .p (.int .i64 a1) ∧ s.F 3 = .p (.int .u32 v19) ∧ s.F 4 = .ep (cTPerm a0) 0 ∧ s.F 8 = .bp (d + 1, 8, 0) 0 ∧ s.F 9 = .bp (d + 1, 9, 0) 0 ∧ s.F 11 = .p (.int .i64 r1.1) ∧ s.F 14 = .bp (d + 1, 14, 0) 0 ∧ s.F 15 = .bp (d + 1, 15, 0) 0 ∧ True := ⟨_, rfl⟩
          refine cutG R20 ?_ ?_
          · replace h := hz
            rcases ib h with ⟨c21, h⟩ | ⟨c21, h⟩
            · cases h
              simp -implicitDefEqProofs only [go_sem, gi5, i5, gi15, i15, c16, c18, c21]
              rw [hR20]
              simp -implicitDefEqProofs only [go_sem, gi5, i5, gi15, i15, c16, c18, c21]
            · cases h
              simp -implicitDefEqProofs only [go_sem, gi5, i5, gi15, i15, c16, c18, c21]
              rw [hR20]
              simp -implicitDefEqProofs only [go_sem, gi5, i5, gi15, i15, c16, c18, c21]
          · replace h := h; clear hz
            rintro s i
            rw [hR20] at i
            obtain ⟨gi22, i22⟩ := i
            clear hR20
            try dsimp only at h
            cases h
            subst hQ
            simp -implicitDefEqProofs only [go_sem, gi5, i5, gi15, i15, c16, c18, gi22, i22, Try.results83]
theorem m_perm_below_ev (a0 : Int) (a1 : Int) (r0 : Bool) (h : m_perm_below a0 a1 = some r0) (d : Nat) (G : Heap) : Tel Try.prog TB d 108 [.p (.int .u32 a0), .p (.int .u32 a1)] G (.p (.bool r0)) (G) := by
  unfold m_perm_below at h
  refine Tel.intro mix Try.func108 rfl (Nat.le_of_ble_eq_true rfl) {} (by kernel_rfl) (by kernel_rfl) ?_
  generalize hQ : callPost _ _ _ _ _ = Q
  cases h
  subst hQ
  simp -implicitDefEqProofs only [go_sem, Try.results108]
theorem m_perm_fits_ev (a0 : TPerm) (a1 : TContract) (r0 : Bool) (h : m_perm_fits a0 a1 = some r0) (d : Nat) (G : Heap) : Tel Try.prog TB d 85 [.agg ((cTPerm a0).map .p), .agg ((cTContract a1).map .p)] G (.p (.bool r0)) (G) := by
  unfold m_perm_fits at h
  refine Tel.intro mix Try.func85 rfl (Nat.le_of_ble_eq_true rfl) {frzAt := fun t => t == 2 || t == 3 || t == 31 || t == 36} (by kernel_rfl) (by kernel_rfl) ?_
  generalize hQ : callPost _ _ _ _ _ = Q
  simp -implicitDefEqProofs only [go_sem]
  obtain ⟨v1, hz, h⟩ := bs h
  obtain ⟨R2, hR2⟩ : ∃ R : St → Prop, R = fun s => s.G = cut d G ∧ s.F 2 = .ep (cTPerm a0) 0 ∧ s.F 3 = .ep (cTContract a1) 0 ∧ s.F 5 = .p (.bool v1) ∧ True := ⟨_, rfl⟩
  refine cutR R2 ?_ ?_
  · replace h := hz
    rcases ib h with ⟨c3, h⟩ | ⟨c3, h⟩
    · cases h
      simp -implicitDefEqProofs only [go_sem, c3]
      rw [hR2]
      simp -implicitDefEqProofs only [go_sem, c3]
    · cases h
      simp -implicitDefEqProofs only [go_sem, c3]
      rw [hR2]
      simp -implicitDefEqProofs only [go_sem, c3]
  · replace h := h; clear hz
    rintro s i
    rw [hR2] at i
    obtain ⟨gi4, i4⟩ := i
    clear hR2
    try dsimp only at h
    rcases ib h with ⟨c5, h⟩ | ⟨c5, h⟩
    · cases h
      subst hQ
      simp -implicitDefEqProofs only [go_sem, gi4, i4, c5, Try.results85]
    · rcases ib h with ⟨c6, h⟩ | ⟨c6, h⟩
      · cases h
        subst hQ
        simp -implicitDefEqProofs only [go_sem, gi4, i4, c5, c6, Try.results85]
      · rcases ib h with ⟨c7, h⟩ | ⟨c7, h⟩
        · obtain ⟨r8, hr8, h⟩ := bs h
          simp -implicitDefEqProofs only [go_sem, gi4, i4, c5, c6, c7]
          refine call_frz (r' := .p (.bool r8)) (m_perm_below_ev a1.f7 a0.f3 r8 hr8 (d + 1) empty) (by simp -implicitDefEqProofs only [go_sem, gi4, i4, c5, c6, c7]) rfl (by simp -implicitDefEqProofs only [go_sem]) (by simp -implicitDefEqProofs only [go_sem]) ?_ rfl rfl
          cases h
          subst hQ
          simp -implicitDefEqProofs only [go_sem, gi4, i4, c5, c6, c7, Try.results85]
        · obtain ⟨r9, hr9, h⟩ := bs h
          simp -implicitDefEqProofs only [go_sem, gi4, i4, c5, c6, c7]
          refine call_frz (r' := .p (.bool r9)) (m_perm_below_ev a0.f3 a1.f7 r9 hr9 (d + 1) empty) (by simp -implicitDefEqProofs only [go_sem, gi4, i4, c5, c6, c7]) rfl (by simp -implicitDefEqProofs only [go_sem]) (by simp -implicitDefEqProofs only [go_sem]) ?_ rfl rfl
          cases h
          subst hQ
          simp -implicitDefEqProofs only [go_sem, gi4, i4, c5, c6, c7, Try.results85]
theorem m_perm_Lend_ev (a0 : TPerm) (a1 : TContract) (r0 : TPerm × Bool × TPerm × Int) (h : m_perm_Lend a0 a1 = some r0) (d : Nat) (G : Heap) : Tel Try.prog TB d 53 [.agg ((cTPerm a0).map .p), .agg ((cTContract a1).map .p)] G (.tup [.agg ((cTPerm r0.1).map .p), .p (.bool r0.2.1), .agg ((cTPerm r0.2.2.1).map .p), .p (.int .i64 r0.2.2.2)]) (G) := by
  unfold m_perm_Lend at h
  refine Tel.intro mix Try.func53 rfl (Nat.le_of_ble_eq_true rfl) {frzAt := fun t => t == 2 || t == 3 || t == 40 || t == 42 || t == 55, boxAt := fun t => if t = 2 then some 900002 else if t = 4 then some 4 else if t = 6 then some 6 else if t = 9 then some 9 else if t = 10 then some 10 else if t = 38 then some 900038 else none} (by kernel_rfl) (by kernel_rfl) ?_
  generalize hQ : callPost _ _ _ _ _ = Q
  simp -implicitDefEqProofs only [go_sem]
  obtain ⟨v1, hz, h⟩ := bs h
  obtain ⟨R2, hR2⟩ : ∃ R : St → Prop, R = fun s => s.G = fillKey (fillKey (cut d G) (d + 1) 4 [.box [.p (.int .i64 0), .p (.int .i64 0), .p (.int .i64 0), .p (.int .i64 0), .p (.int .u32 0)]]) (d + 1) 6 [.box [.p (.int .i64 0), .p (.int .i64 0), .p (.int .i64 0), .p (.int .i64 0), .p (.int .u32 0)]] ∧ s.F 2 = .ep (cTPerm a0) 0 ∧ s.F 3 = .ep (cTContract a1) 0 ∧ s.F 4 = .bp (d + 1, 4, 0) 0 ∧ s.F 6 = .bp (d + 1, 6, 0) 0 ∧ s.F 23 = .p (.bool v1) ∧ True := ⟨_, rfl⟩
  refine cutR R2 ?_ ?_
  · replace h := hz
    rcases ib h with ⟨c3, h⟩ | ⟨c3, h⟩
    · rcases ib h with ⟨c4, h⟩ | ⟨c4, h⟩
      · cases h
        simp -implicitDefEqProofs only [go_sem, c3, c4]
        rw [hR2]
        simp -implicitDefEqProofs only [go_sem, c3, c4]
      · cases h
        simp -implicitDefEqProofs only [go_sem, c3, c4]
        rw [hR2]
        simp -implicitDefEqProofs only [go_sem, c3, c4]
    · cases h
      simp -implicitDefEqProofs only [go_sem, c3]
      rw [hR2]
      simp -implicitDefEqProofs only [go_sem, c3]
  · replace h := h; clear hz
    rintro s i
    rw [hR2] at i
    obtain ⟨gi5, i5⟩ := i
    clear hR2
    try dsimp only at h
    rcases ib h with ⟨c6, h⟩ | ⟨c6, h⟩
    · cases h
      subst hQ
      simp -implicitDefEqProofs only [go_sem, gi5, i5, c6, Try.results53]
    · simp -implicitDefEqProofs only [go_sem, gi5, i5, c6]
      obtain ⟨v7, hz, h⟩ := bs h
      obtain ⟨R8, hR8⟩ : ∃ R : St → Prop, R = fun s => s.G = fillKey (fillKey (cut d G) (d + 1) 4 [.box [.p (.int .i64 0), .p (.int .i64 0), .p (.int .i64 0), .p (.int .i64 0), .p (.int .u32 0)]]) (d + 1) 6 [.box [.p (.int .i64 0), .p (.int .i64 0), .p (.int .i64 0), .p (.int .i64 0), .p (.int .u32 0)]] ∧ s.F 2 = .ep (cTPerm a0) 0 ∧ s.F 3 = .ep (cTContract a1) 0 ∧ s.F 4 = .bp (d + 1, 4, 0) 0 ∧ s.F 6 = .bp (d + 1, 6, 0) 0 ∧ s.F 8 = .p (.int .u32 0) ∧ s.F 33 = .p (.bool v7) ∧ True := ⟨_, rfl⟩
      refine cutR R8 ?_ ?_
      · replace h := hz
        rcases ib h with ⟨c9, h⟩ | ⟨c9, h⟩
        · cases h
          simp -implicitDefEqProofs only [go_sem, gi5, i5, c6, c9]
          rw [hR8]
          simp -implicitDefEqProofs only [go_sem, gi5, i5, c6, c9]
        · cases h
          simp -implicitDefEqProofs only [go_sem, gi5, i5, c6, c9]
          rw [hR8]
          simp -implicitDefEqProofs only [go_sem, gi5, i5, c6, c9]
      · replace h := h; clear hz
        rintro s i
        rw [hR8] at i
        obtain ⟨gi10, i10⟩ := i
        clear hR8
        try dsimp only at h
        simp -implicitDefEqProofs only [go_sem, gi5, i5, c6, gi10, i10]
        obtain ⟨v11, hz, h⟩ := bs h
        obtain ⟨R12, hR12⟩ : ∃ R : St → Prop, R = fun s => s.G = fillKey (fillKey (cut d G) (d + 1) 4 [.box [.p (.int .i64 0), .p (.int .i64 0), .p (.int .i64 0), .p (.int .i64 0), .p (.int .u32 0)]]) (d + 1) 6 [.box [.p (.int .i64 0), .p (.int .i64 0), .p (.int .i64 0), .p (.int .i64 0), .p (.int .u32 0)]] ∧ s.F 2 = .ep (cTPerm a0) 0 ∧ s.F 3 = .ep (cTContract a1) 0 ∧ s.F 4 = .bp (d + 1, 4, 0) 0 ∧ s.F 6 = .bp (d + 1, 6, 0) 0 ∧ s.F 8 = .p (.int .u32 v11) ∧ True := ⟨_, rfl⟩
        refine cutG R12 ?_ ?_
        · replace h := hz
          rcases ib h with ⟨c13, h⟩ | ⟨c13, h⟩
          · cases h
            simp -implicitDefEqProofs only [go_sem, gi5, i5, c6, gi10, i10, c13]
            rw [hR12]
            simp -implicitDefEqProofs only [go_sem, gi5, i5, c6, gi10, i10, c13]
          · cases h
            simp -implicitDefEqProofs only [go_sem, gi5, i5, c6, gi10, i10, c13]
            rw [hR12]
            simp -implicitDefEqProofs only [go_sem, gi5, i5, c6, gi10, i10, c13]
        · replace h := h; clear hz
          rintro s i
          rw [hR12] at i
          obtain ⟨gi14, i14⟩ := i
          clear hR12
          try dsimp only at h
          obtain ⟨r15, hr15, h⟩ := bs h
          simp -implicitDefEqProofs only [go_sem, gi5, i5, c6, gi10, i10, gi14, i14]
          try refine gCall_eta gi14 ?_
          refine call_frz (r' := .agg [.p (.int .i64 r15.f0), .p (.int .i64 r15.f1)]) (args := []) (caps := []) (m_perm_half_ev  r15 hr15 (d + 1) empty) (wkRs_refl []) rfl (by simp -implicitDefEqProofs only [go_sem]) (by simp -implicitDefEqProofs only [go_sem]) ?_ rfl rfl
          obtain ⟨r16, hr16, h⟩ := bs h
          simp -implicitDefEqProofs only [go_sem, gi5, i5, c6, gi10, i10, gi14, i14]
          refine call_frz (r' := .tup [.agg [.p (.int .i64 r16.1.f0), .p (.int .i64 r16.1.f1.f0), .p (.int .i64 r16.1.f1.f1), .p (.int .i64 r16.1.f2), .p (.int .u32 r16.1.f3)], .agg [.p (.int .i64 r16.2.1.f0), .p (.int .i64 r16.2.1.f1.f0), .p (.int .i64 r16.2.1.f1.f1), .p (.int .i64 r16.2.1.f2), .p (.int .u32 r16.2.1.f3)], .p (.int .i64 r16.2.2)]) (m_perm_Split_ev a0 a1.f3 r15 v11 r16 hr16 (d + 1) empty) (by simp -implicitDefEqProofs only [go_sem, gi5, i5, c6, gi10, i10, gi14, i14]) rfl (by simp -implicitDefEqProofs only [go_sem]) (by simp -implicitDefEqProofs only [go_sem]) ?_ rfl rfl
          simp -implicitDefEqProofs only [go_sem, gi5, i5, c6, gi10, i10, gi14, i14]
          obtain ⟨v17, hz, h⟩ := bs h
          obtain ⟨R18, hR18⟩ : ∃ R : St → Prop, R = fun s => s.G = fillKey (fillKey (fillKey (fillKey (cut d G) (d + 1) 4 [.box [.p (.int .i64 0), .p (.int .i64 0), .p (.int .i64 0), .p (.int .i64 0), .p (.int .u32 0)]]) (d + 1) 6 [.box [.p (.int .i64 0), .p (.int .i64 0), .p (.int .i64 0), .p (.int .i64 0), .p (.int .u32 0)]]) (d + 1) 9 [.box [.p (.int .i64 r16.1.f0), .p (.int .i64 r16.1.f1.f0), .p (.int .i64 r16.1.f1.f1), .p (.int .i64 r16.1.f2), .p (.int .u32 r16.1.f3)]]) (d + 1) 10 [.box [.p (.int .i64 r16.2.1.f0), .p (.int .i64 r16.2.1.f1.f0), .p (.int .i64 r16.2.1.f1.f1), .p (.int .i64 r16.2.1.f2), .p (.int .u32 r16.2.1.f3)]] ∧ s.F 3 = .ep (cTContract a1) 0 ∧ s.F 4 = .bp (d + 1, 4, 0) 0 ∧ s.F 6 = .bp (d + 1, 6, 0) 0 ∧ s.F 9 = .bp (d + 1, 9, 0) 0 ∧ s.F 10 = .bp (d + 1, 10, 0) 0 ∧ s.F 11 = .p (.int .i64 r16.2.2) ∧ s.F 68 = .p (.bool v17) ∧ True := ⟨_, rfl⟩
          refine cutR R18 ?_ ?_
          · replace h := hz
            rcases ib h with ⟨c19, h⟩ | ⟨c19, h⟩
            · rcases ib h with ⟨c20, h⟩ | ⟨c20, h⟩
              · cases h
                simp -implicitDefEqProofs only [go_sem, gi5, i5, c6, gi10, i10, gi14, i14, c19, c20]
                rw [hR18]
                simp -implicitDefEqProofs only [go_sem, gi5, i5, c6, gi10, i10, gi14, i14, c19, c20]
              · obtain ⟨r21, hr21, h⟩ := bs h
                simp -implicitDefEqProofs only [go_sem, gi5, i5, c6, gi10, i10, gi14, i14, c19, c20]
                refine call_frz (r' := .p (.bool r21)) (m_perm_fits_ev a0 a1 r21 hr21 (d + 1) empty) (by simp -implicitDefEqProofs only [go_sem, gi5, i5, c6, gi10, i10, gi14, i14, c19, c20]) rfl (by simp -implicitDefEqProofs only [go_sem]) (by simp -implicitDefEqProofs only [go_sem]) ?_ rfl rfl
                rcases ib h with ⟨c22, h⟩ | ⟨c22, h⟩
                · cases h
                  simp -implicitDefEqProofs only [go_sem, gi5, i5, c6, gi10, i10, gi14, i14, c19, c20, c22]
                  rw [hR18]
                  simp -implicitDefEqProofs only [go_sem, gi5, i5, c6, gi10, i10, gi14, i14, c19, c20, c22]
                · rcases ib h with ⟨c23, h⟩ | ⟨c23, h⟩
                  · cases h
                    simp -implicitDefEqProofs only [go_sem, gi5, i5, c6, gi10, i10, gi14, i14, c19, c20, c22, c23]
                    rw [hR18]
                    simp -implicitDefEqProofs only [go_sem, gi5, i5, c6, gi10, i10, gi14, i14, c19, c20, c22, c23]
                  · cases h
                    simp -implicitDefEqProofs only [go_sem, gi5, i5, c6, gi10, i10, gi14, i14, c19, c20, c22, c23]
                    rw [hR18]
                    simp -implicitDefEqProofs only [go_sem, gi5, i5, c6, gi10, i10, gi14, i14, c19, c20, c22, c23]
            · rcases ib h with ⟨c24, h⟩ | ⟨c24, h⟩
              · cases h
                simp -implicitDefEqProofs only [go_sem, gi5, i5, c6, gi10, i10, gi14, i14, c19, c24]
                rw [hR18]
                simp -implicitDefEqProofs only [go_sem, gi5, i5, c6, gi10, i10, gi14, i14, c19, c24]
              · cases h
                simp -implicitDefEqProofs only [go_sem, gi5, i5, c6, gi10, i10, gi14, i14, c19, c24]
                rw [hR18]
                simp -implicitDefEqProofs only [go_sem, gi5, i5, c6, gi10, i10, gi14, i14, c19, c24]
          · replace h := h; clear hz
            rintro s i
            rw [hR18] at i
            obtain ⟨gi25, i25⟩ := i
            clear hR18
            try dsimp only at h
            simp -implicitDefEqProofs only [go_sem, gi5, i5, c6, gi10, i10, gi14, i14, gi25, i25]
            obtain ⟨v26, hz, h⟩ := bs h
            obtain ⟨R27, hR27⟩ : ∃ R : St → Prop, R = fun s => s.G = fillKey (fillKey (fillKey (fillKey (cut d G) (d + 1) 4 [.box [.p (.int .i64 0), .p (.int .i64 0), .p (.int .i64 0), .p (.int .i64 0), .p (.int .u32 0)]]) (d + 1) 6 [.box [.p (.int .i64 0), .p (.int .i64 0), .p (.int .i64 0), .p (.int .i64 0), .p (.int .u32 0)]]) (d + 1) 9 [.box [.p (.int .i64 r16.1.f0), .p (.int .i64 r16.1.f1.f0), .p (.int .i64 r16.1.f1.f1), .p (.int .i64 r16.1.f2), .p (.int .u32 r16.1.f3)]]) (d + 1) 10 [.box [.p (.int .i64 r16.2.1.f0), .p (.int .i64 r16.2.1.f1.f0), .p (.int .i64 r16.2.1.f1.f1), .p (.int .i64 r16.2.1.f2), .p (.int .u32 r16.2.1.f3)]] ∧ s.F 3 = .ep (cTContract a1) 0 ∧ s.F 4 = .bp (d + 1, 4, 0) 0 ∧ s.F 6 = .bp (d + 1, 6, 0) 0 ∧ s.F 9 = .bp (d + 1, 9, 0) 0 ∧ s.F 10 = .bp (d + 1, 10, 0) 0 ∧ s.F 11 = .p (.int .i64 v26) ∧ True := ⟨_, rfl⟩
            refine cutG R27 ?_ ?_
            · replace h := hz
              rcases ib h with ⟨c28, h⟩ | ⟨c28, h⟩
              · cases h
                simp -implicitDefEqProofs only [go_sem, gi5, i5, c6, gi10, i10, gi14, i14, gi25, i25, c28]
                rw [hR27]
                simp -implicitDefEqProofs only [go_sem, gi5, i5, c6, gi10, i10, gi14, i14, gi25, i25, c28]
              · cases h
                simp -implicitDefEqProofs only [go_sem, gi5, i5, c6, gi10, i10, gi14, i14, gi25, i25, c28]
                rw [hR27]
                simp -implicitDefEqProofs only [go_sem, gi5, i5, c6, gi10, i10, gi14, i14, gi25, i25, c28]
            · replace h := h; clear hz
              rintro s i
              rw [hR27] at i
              obtain ⟨gi29, i29⟩ := i
              clear hR27
              try dsimp only at h
              rcases ib h with ⟨c30, h⟩ | ⟨c30, h⟩
              · cases h
                subst hQ
                simp -implicitDefEqProofs only [go_sem, gi5, i5, c6, gi10, i10, gi14, i14, gi25, i25, gi29, i29, c30, Try.results53]
              · rcases ib h with ⟨c31, h⟩ | ⟨c31, h⟩
                · cases h
                  subst hQ
                  simp -implicitDefEqProofs only [go_sem, gi5, i5, c6, gi10, i10, gi14, i14, gi25, i25, gi29, i29, c30, c31, Try.results53]
                · cases h
                  subst hQ
                  simp -implicitDefEqProofs only [go_sem, gi5, i5, c6, gi10, i10, gi14, i14, gi25, i25, gi29, i29, c30, c31, Try.results53]
theorem m_perm_Enough_1_ev (a0 : TRat) (a1 : TRat) (r0 : TTerm) (h : m_perm_Enough_1 a0 a1 = some r0) (d : Nat) (G : Heap) : Tel Try.prog TB d 86 [.agg ((cTRat a0).map .p), .agg ((cTRat a1).map .p)] G (.agg ((cTTerm r0).map .p)) (G) := by
  unfold m_perm_Enough_1 at h
  refine Tel.intro mix Try.func86 rfl (Nat.le_of_ble_eq_true rfl) {frzAt := fun t => t == 2 || t == 3} (by kernel_rfl) (by kernel_rfl) ?_
  generalize hQ : callPost _ _ _ _ _ = Q
  cases h
  subst hQ
  simp -implicitDefEqProofs only [go_sem, Try.results86]
theorem m_perm_Enough_2_ev (a0 : TRat) (r0 : TRat) (h : m_perm_Enough_2 a0 = some r0) (d : Nat) (G : Heap) : Tel Try.prog TB d 87 [.agg ((cTRat a0).map .p)] G (.agg ((cTRat r0).map .p)) (G) := by
  unfold m_perm_Enough_2 at h
  refine Tel.intro mix Try.func87 rfl (Nat.le_of_ble_eq_true rfl) {frzAt := fun t => t == 1} (by kernel_rfl) (by kernel_rfl) ?_
  generalize hQ : callPost _ _ _ _ _ = Q
  cases h
  subst hQ
  simp -implicitDefEqProofs only [go_sem, Try.results87]
theorem m_perm_Enough_ev (a0 : TPerm) (a1 : TRat) (a2 : TRat) (r0 : Int) (h : m_perm_Enough a0 a1 a2 = some r0) (d : Nat) (G : Heap) : Tel Try.prog TB d 54 [.agg ((cTPerm a0).map .p), .agg ((cTRat a1).map .p), .agg ((cTRat a2).map .p)] G (.p (.int .i64 r0)) (G) := by
  unfold m_perm_Enough at h
  refine Tel.intro mix Try.func54 rfl (Nat.le_of_ble_eq_true rfl) {frzAt := fun t => t == 3 || t == 4 || t == 5 || t == 11 || t == 13 || t == 14 || t == 15 || t == 22 || t == 24 || t == 28 || t == 29 || t == 30 || t == 31 || t == 34 || t == 37 || t == 38 || t == 47 || t == 48 || t == 50} (by kernel_rfl) (by kernel_rfl) ?_
  generalize hQ : callPost _ _ _ _ _ = Q
  obtain ⟨r1, hr1, h⟩ := bs h
  simp -implicitDefEqProofs only [go_sem]
  refine call_frz (r' := .agg [.p (.int .i64 r1.f0), .p (.int .i64 r1.f1)]) (args := []) (caps := []) (m_perm_one_ev  r1 hr1 (d + 1) empty) (wkRs_refl []) rfl (by simp -implicitDefEqProofs only [go_sem]) (by simp -implicitDefEqProofs only [go_sem]) ?_ rfl rfl
  obtain ⟨r2, hr2, h⟩ := bs h
  simp -implicitDefEqProofs only [go_sem]
  refine call_frz (r' := .agg [.p (.int .i64 r2.f0), .p (.int .i64 r2.f1)]) (args := []) (caps := []) (m_perm_one_ev  r2 hr2 (d + 1) empty) (wkRs_refl []) rfl (by simp -implicitDefEqProofs only [go_sem]) (by simp -implicitDefEqProofs only [go_sem]) ?_ rfl rfl
  obtain ⟨r3, hr3, h⟩ := bs h
  simp -implicitDefEqProofs only [go_sem]
  refine call_frz (r' := .agg [.p (.int .i64 r3.f0), .p (.int .i64 r3.f1)]) (m_perm_Enough_2_ev r2 r3 hr3 (d + 1) empty) (by simp -implicitDefEqProofs only [go_sem]) rfl (by simp -implicitDefEqProofs only [go_sem]) (by simp -implicitDefEqProofs only [go_sem]) ?_ rfl rfl
  obtain ⟨r4, hr4, h⟩ := bs h
  simp -implicitDefEqProofs only [go_sem]
  refine call_frz (r' := .agg [.p (.sl (r4.f0.map cTRat)), .p (.int .i64 r4.f1.f0), .p (.int .i64 r4.f1.f1)]) (m_perm_Enough_1_ev r1 r3 r4 hr4 (d + 1) empty) (by simp -implicitDefEqProofs only [go_sem]) rfl (by simp -implicitDefEqProofs only [go_sem]) (by simp -implicitDefEqProofs only [go_sem]) ?_ rfl rfl
  simp -implicitDefEqProofs only [go_sem]
  obtain ⟨v5, hz, h⟩ := bs h
  obtain ⟨R6, hR6⟩ : ∃ R : St → Prop, R = fun s => s.G = cut d G ∧ s.F 3 = .ep (cTPerm a0) 0 ∧ s.F 4 = .ep (cTRat a1) 0 ∧ s.F 7 = .fn 86 [] ∧ s.F 8 = .fn 87 [] ∧ s.F 9 = .csl (v5.map cTRow) ∧ True := ⟨_, rfl⟩
  refine cutG R6 ?_ ?_
  · replace h := hz
    rcases ib h with ⟨c7, h⟩ | ⟨c7, h⟩
    · obtain ⟨r8, hr8, h⟩ := bs h
      simp -implicitDefEqProofs only [go_sem, c7]
      refine call_frz (r' := .agg [.p (.int .i64 r8.f0), .p (.int .i64 r8.f1)]) (args := []) (caps := []) (m_perm_one_ev  r8 hr8 (d + 1) empty) (wkRs_refl []) rfl (by simp -implicitDefEqProofs only [go_sem]) (by simp -implicitDefEqProofs only [go_sem]) ?_ rfl rfl
      obtain ⟨r9, hr9, h⟩ := bs h
      simp -implicitDefEqProofs only [go_sem, c7]
      refine call_frz (r' := .agg [.p (.sl (r9.f0.map cTRat)), .p (.int .i64 r9.f1.f0), .p (.int .i64 r9.f1.f1)]) (m_perm_Enough_1_ev r8 (⟨0, 1⟩ : TRat) r9 hr9 (d + 1) empty) (by simp -implicitDefEqProofs only [go_sem, c7]) rfl (by simp -implicitDefEqProofs only [go_sem]) (by simp -implicitDefEqProofs only [go_sem]) ?_ rfl rfl
      obtain ⟨r10, hr10, h⟩ := bs h
      simp -implicitDefEqProofs only [go_sem, c7]
      refine call_frz (r' := .agg [.p (.int .i64 r10.f0), .p (.int .i64 r10.f1)]) (args := []) (caps := []) (m_perm_one_ev  r10 hr10 (d + 1) empty) (wkRs_refl []) rfl (by simp -implicitDefEqProofs only [go_sem]) (by simp -implicitDefEqProofs only [go_sem]) ?_ rfl rfl
      obtain ⟨r11, hr11, h⟩ := bs h
      simp -implicitDefEqProofs only [go_sem, c7]
      refine call_frz (r' := .agg [.p (.int .i64 r11.f0), .p (.int .i64 r11.f1)]) (m_perm_Enough_2_ev r10 r11 hr11 (d + 1) empty) (by simp -implicitDefEqProofs only [go_sem, c7]) rfl (by simp -implicitDefEqProofs only [go_sem]) (by simp -implicitDefEqProofs only [go_sem]) ?_ rfl rfl
      obtain ⟨r12, hr12, h⟩ := bs h
      simp -implicitDefEqProofs only [go_sem, c7]
      refine call_frz (r' := .agg [.p (.int .i64 r12.f0), .p (.int .i64 r12.f1)]) (args := []) (caps := []) (m_perm_one_ev  r12 hr12 (d + 1) empty) (wkRs_refl []) rfl (by simp -implicitDefEqProofs only [go_sem]) (by simp -implicitDefEqProofs only [go_sem]) ?_ rfl rfl
      obtain ⟨r13, hr13, h⟩ := bs h
      simp -implicitDefEqProofs only [go_sem, c7]
      refine call_frz (r' := .agg [.p (.sl (r13.f0.map cTRat)), .p (.int .i64 r13.f1.f0), .p (.int .i64 r13.f1.f1)]) (m_perm_Enough_1_ev r11 r12 r13 hr13 (d + 1) empty) (by simp -implicitDefEqProofs only [go_sem, c7]) rfl (by simp -implicitDefEqProofs only [go_sem]) (by simp -implicitDefEqProofs only [go_sem]) ?_ rfl rfl
      obtain ⟨r14, hr14, h⟩ := bs h
      simp -implicitDefEqProofs only [go_sem, c7]
      refine call_frz (r' := .agg [.p (.int .i64 r14.f0), .p (.int .i64 r14.f1)]) (args := []) (caps := []) (m_perm_one_ev  r14 hr14 (d + 1) empty) (wkRs_refl []) rfl (by simp -implicitDefEqProofs only [go_sem]) (by simp -implicitDefEqProofs only [go_sem]) ?_ rfl rfl
      obtain ⟨r15, hr15, h⟩ := bs h
      simp -implicitDefEqProofs only [go_sem, c7]
      refine call_frz (r' := .agg [.p (.int .i64 r15.f0), .p (.int .i64 r15.f1)]) (m_perm_Enough_2_ev a2 r15 hr15 (d + 1) empty) (by simp -implicitDefEqProofs only [go_sem, c7]) rfl (by simp -implicitDefEqProofs only [go_sem]) (by simp -implicitDefEqProofs only [go_sem]) ?_ rfl rfl
      obtain ⟨r16, hr16, h⟩ := bs h
      simp -implicitDefEqProofs only [go_sem, c7]
      refine call_frz (r' := .agg [.p (.sl (r16.f0.map cTRat)), .p (.int .i64 r16.f1.f0), .p (.int .i64 r16.f1.f1)]) (m_perm_Enough_1_ev r14 r15 r16 hr16 (d + 1) empty) (by simp -implicitDefEqProofs only [go_sem, c7]) rfl (by simp -implicitDefEqProofs only [go_sem]) (by simp -implicitDefEqProofs only [go_sem]) ?_ rfl rfl
      cases h
      simp -implicitDefEqProofs only [go_sem, c7]
      rw [hR6]
      simp -implicitDefEqProofs only [go_sem, c7]
    · cases h
      simp -implicitDefEqProofs only [go_sem, c7]
      rw [hR6]
      simp -implicitDefEqProofs only [go_sem, c7]
  · replace h := h; clear hz
    rintro s i
    rw [hR6] at i
    obtain ⟨gi17, i17⟩ := i
    clear hR6
    try dsimp only at h
    obtain ⟨r18, hr18, h⟩ := bs h
    simp -implicitDefEqProofs only [go_sem, gi17, i17]
    refine call_frz (r' := .agg [.p (.int .i64 r18.f0), .p (.int .i64 r18.f1)]) (m_perm_Enough_2_ev a1 r18 hr18 (d + 1) empty) (by simp -implicitDefEqProofs only [go_sem, gi17, i17]) rfl (by simp -implicitDefEqProofs only [go_sem]) (by simp -implicitDefEqProofs only [go_sem]) ?_ rfl rfl
    obtain ⟨r19, hr19, h⟩ := bs h
    simp -implicitDefEqProofs only [go_sem, gi17, i17]
    refine call_frz (r' := .agg [.p (.sl (r19.f0.map cTRat)), .p (.int .i64 r19.f1.f0), .p (.int .i64 r19.f1.f1)]) (m_perm_Enough_1_ev a0.f1 r18 r19 hr19 (d + 1) empty) (by simp -implicitDefEqProofs only [go_sem, gi17, i17]) rfl (by simp -implicitDefEqProofs only [go_sem]) (by simp -implicitDefEqProofs only [go_sem]) ?_ rfl rfl
    obtain ⟨r20, hr20, h⟩ := bs h
    simp -implicitDefEqProofs only [go_sem, gi17, i17]
    refine call_frz (r' := .p (.int .i64 r20)) (m_bound_Entails_ev v5 (⟨1, r19⟩ : TRow) r20 hr20 (d + 1) empty) (by simp -implicitDefEqProofs only [go_sem, gi17, i17]) rfl (by simp -implicitDefEqProofs only [go_sem]) (by simp -implicitDefEqProofs only [go_sem]) ?_ rfl rfl
    cases h
    subst hQ
    simp -implicitDefEqProofs only [go_sem, gi17, i17, Try.results54]
theorem m_lend_caller_least_ev (a0 : TLend_caller) (a1 : Int) (r0 : TRat × TLend_caller) (h : m_lend_caller_least a0 a1 = some r0) (d : Nat) (G : Heap) (e0 t0 t0_1 t0_3 : Nat) (he0 : e0 ≤ d) (hGt0 : G e0 t0 = [.box [.p (.sl (a0.f0.map cTPerm)), arV ((a0.f1 : List TLend_left).map cTLend_left) (e0, t0_1, 0) 6, .p (.sl (a0.f2.map ciu32)), arV ((a0.f3 : List Int).map ciu32) (e0, t0_3, 0) 1, .p (.sl (a0.f4.map cTRat))]]) (hGt0_1 : G e0 t0_1 = arO ((a0.f1 : List TLend_left).map cTLend_left)) (hGt0_3 : G e0 t0_3 = arO ((a0.f3 : List Int).map ciu32)) (hnt0t0_1 : (t0 = t0_1) = False) (hnt0t0_3 : (t0 = t0_3) = False) (hnt0_1t0 : (t0_1 = t0) = False) (hnt0_1t0_3 : (t0_1 = t0_3) = False) (hnt0_3t0 : (t0_3 = t0) = False) (hnt0_3t0_1 : (t0_3 = t0_1) = False) : Tel Try.prog TB d 55 [.bp (e0, t0, 0) 0, .p (.int .i64 a1)] G (.agg ((cTRat r0.1).map .p)) (fillKey (fillKey (fillKey (G) e0 t0 ([.box [.p (.sl (r0.2.f0.map cTPerm)), arV ((r0.2.f1 : List TLend_left).map cTLend_left) (e0, t0_1, 0) 6, .p (.sl (r0.2.f2.map ciu32)), arV ((r0.2.f3 : List Int).map ciu32) (e0, t0_3, 0) 1, .p (.sl (r0.2.f4.map cTRat))]])) e0 t0_1 (arO ((r0.2.f1 : List TLend_left).map cTLend_left))) e0 t0_3 (arO ((r0.2.f3 : List Int).map ciu32))) := by
  unfold m_lend_caller_least at h
  refine Tel.intro mix Try.func55 rfl (Nat.le_of_ble_eq_true rfl) {} (by kernel_rfl) (by kernel_rfl) ?_
  have le0 : (e0 ≤ d + 1) = True := by simp; omega
  have qe0 : (e0 = d + 1) = False := by simp; omega
  have pe0 : (d + 1 = e0) = False := by simp; omega
  have wt0t0_1 := fk_swap (a := e0) (b := t0_1) (a' := e0) (b' := t0) (fun x => by rw [← hnt0_1t0]; exact x.2)
  have wt0t0_3 := fk_swap (a := e0) (b := t0_3) (a' := e0) (b' := t0) (fun x => by rw [← hnt0_3t0]; exact x.2)
  have wt0_1t0_3 := fk_swap (a := e0) (b := t0_3) (a' := e0) (b' := t0_1) (fun x => by rw [← hnt0_3t0_1]; exact x.2)
  refine gwp_heap (H' := fillKey (fillKey (fillKey (cut d G) e0 t0 [.box [.p (.sl (a0.f0.map cTPerm)), arV ((a0.f1 : List TLend_left).map cTLend_left) (e0, t0_1, 0) 6, .p (.sl (a0.f2.map ciu32)), arV ((a0.f3 : List Int).map ciu32) (e0, t0_3, 0) 1, .p (.sl (a0.f4.map cTRat))]]) e0 t0_1 (arO ((a0.f1 : List TLend_left).map cTLend_left))) e0 t0_3 (arO ((a0.f3 : List Int).map ciu32))) ?_ ?_
  · rw [fill_self (B := cut d G) (a := e0) (b := t0) (by rw [cut_app, if_pos he0]; exact hGt0), fill_self (B := cut d G) (a := e0) (b := t0_1) (by rw [cut_app, if_pos he0]; exact hGt0_1), fill_self (B := cut d G) (a := e0) (b := t0_3) (by rw [cut_app, if_pos he0]; exact hGt0_3)]
  generalize hQ : callPost _ _ _ _ _ = Q
  simp -implicitDefEqProofs only [go_sem, he0, le0, qe0, pe0, hnt0t0_1, hnt0t0_3, hnt0_1t0, hnt0_1t0_3, hnt0_3t0, hnt0_3t0_1, wt0t0_1, wt0t0_3, wt0_1t0_3]
  obtain ⟨v1, hz, h⟩ := bs h
  obtain ⟨R2, hR2⟩ : ∃ R : St → Prop, R = fun s => s.G = fillKey (fillKey (fillKey (fillKey (cut d G) e0 t0 [.box [.p (.sl (a0.f0.map cTPerm)), arV ((a0.f1 : List TLend_left).map cTLend_left) (e0, t0_1, 0) 6, .p (.sl (a0.f2.map ciu32)), arV ((a0.f3 : List Int).map ciu32) (e0, t0_3, 0) 1, .p (.sl (a0.f4.map cTRat))]]) e0 t0_1 (arO ((a0.f1 : List TLend_left).map cTLend_left))) e0 t0_3 (arO ((a0.f3 : List Int).map ciu32))) (d + 1) 4 [.box [.p (.int .i64 0), .p (.int .i64 0)]] ∧ s.F 0 = .bp (e0, t0, 0) 0 ∧ s.F 1 = .p (.int .i64 a1) ∧ s.F 4 = .bp (d + 1, 4, 0) 0 ∧ s.F 15 = .p (.bool v1) ∧ True := ⟨_, rfl⟩
  refine cutR R2 ?_ ?_
  · replace h := hz
    rcases ib h with ⟨c3, h⟩ | ⟨c3, h⟩
    · cases h
      simp -implicitDefEqProofs only [go_sem, he0, le0, qe0, pe0, hnt0t0_1, hnt0t0_3, hnt0_1t0, hnt0_1t0_3, hnt0_3t0, hnt0_3t0_1, wt0t0_1, wt0t0_3, wt0_1t0_3, c3]
      rw [hR2]
      simp -implicitDefEqProofs only [go_sem, he0, le0, qe0, pe0, hnt0t0_1, hnt0t0_3, hnt0_1t0, hnt0_1t0_3, hnt0_3t0, hnt0_3t0_1, wt0t0_1, wt0t0_3, wt0_1t0_3, c3]
    · cases h
      simp -implicitDefEqProofs only [go_sem, he0, le0, qe0, pe0, hnt0t0_1, hnt0t0_3, hnt0_1t0, hnt0_1t0_3, hnt0_3t0, hnt0_3t0_1, wt0t0_1, wt0t0_3, wt0_1t0_3, c3]
      rw [hR2]
      simp -implicitDefEqProofs only [go_sem, he0, le0, qe0, pe0, hnt0t0_1, hnt0t0_3, hnt0_1t0, hnt0_1t0_3, hnt0_3t0, hnt0_3t0_1, wt0t0_1, wt0t0_3, wt0_1t0_3, c3]
  · replace h := h; clear hz
    rintro s i
    rw [hR2] at i
    obtain ⟨gi4, i4⟩ := i
    clear hR2
    try dsimp only at h
    rcases ib h with ⟨c5, h⟩ | ⟨c5, h⟩
    · cases h
      subst hQ
      simp -implicitDefEqProofs only [go_sem, he0, le0, qe0, pe0, hnt0t0_1, hnt0t0_3, hnt0_1t0, hnt0_1t0_3, hnt0_3t0, hnt0_3t0_1, wt0t0_1, wt0t0_3, wt0_1t0_3, gi4, i4, c5, Try.results55]
    · obtain ⟨v6, hv6, h⟩ := bs h
      replace hv6 := gis hv6
      cases h
      subst hQ
      simp -implicitDefEqProofs only [go_sem, he0, le0, qe0, pe0, hnt0t0_1, hnt0t0_3, hnt0_1t0, hnt0_1t0_3, hnt0_3t0, hnt0_3t0_1, wt0t0_1, wt0t0_3, wt0_1t0_3, gi4, i4, c5, hv6, Try.results55]
end Go.E
end
