import Derived.Test.YtfcehcjhilmlgaaSc9
section
set_option linter.all false
set_option maxRecDepth 100000
namespace Go.E
open Go Go.Proofs Go.Eng
variable {TB : Nat → Option Obj}
theorem m_lend_caller_state_ev (a0 : TLend_caller) (a1 : Int) (a2 : TContract) (r0 : Int × TLend_caller) (h : m_lend_caller_state a0 a1 a2 = some r0) (d : Nat) (G : Heap) (e0 t0 t0_1 t0_3 : Nat) (he0 : e0 ≤ d) (hGt0 : G e0 t0 = [.box [.p (.sl (a0.f0.map cTPerm)), arV ((a0.f1 : List TLend_left).map cTLend_left) (e0, t0_1, 0) 6, .p (.sl (a0.f2.map ciu32)), arV ((a0.f3 : List Int).map ciu32) (e0, t0_3, 0) 1, .p (.sl (a0.f4.map cTRat))]]) (hGt0_1 : G e0 t0_1 = arO ((a0.f1 : List TLend_left).map cTLend_left)) (hGt0_3 : G e0 t0_3 = arO ((a0.f3 : List Int).map ciu32)) (hnt0t0_1 : (t0 = t0_1) = False) (hnt0t0_3 : (t0 = t0_3) = False) (hnt0_1t0 : (t0_1 = t0) = False) (hnt0_1t0_3 : (t0_1 = t0_3) = False) (hnt0_3t0 : (t0_3 = t0) = False) (hnt0_3t0_1 : (t0_3 = t0_1) = False) : Tel Try.prog TB d 56 [.bp (e0, t0, 0) 0, .p (.int .i64 a1), .agg ((cTContract a2).map .p)] G (.p (.int .i64 r0.1)) (fillKey (fillKey (fillKey (G) e0 t0 ([.box [.p (.sl (r0.2.f0.map cTPerm)), arV ((r0.2.f1 : List TLend_left).map cTLend_left) (e0, t0_1, 0) 6, .p (.sl (r0.2.f2.map ciu32)), arV ((r0.2.f3 : List Int).map ciu32) (e0, t0_3, 0) 1, .p (.sl (r0.2.f4.map cTRat))]])) e0 t0_1 (arO ((r0.2.f1 : List TLend_left).map cTLend_left))) e0 t0_3 (arO ((r0.2.f3 : List Int).map ciu32))) := by
  unfold m_lend_caller_state at h
  refine Tel.intro mix Try.func56 rfl (Nat.le_of_ble_eq_true rfl) {boxAt := fun t => if t = 40 then some 5 else if t = 55 then some 5 else none} (by kernel_rfl) (by kernel_rfl) ?_
  have le0 : (e0 ≤ d + 1) = True := by simp; omega
  have qe0 : (e0 = d + 1) = False := by simp; omega
  have pe0 : (d + 1 = e0) = False := by simp; omega
  have wt0t0_1 := fk_swap (a := e0) (b := t0_1) (a' := e0) (b' := t0) (fun x => by rw [← hnt0_1t0]; exact x.2)
  have wt0t0_3 := fk_swap (a := e0) (b := t0_3) (a' := e0) (b' := t0) (fun x => by rw [← hnt0_3t0]; exact x.2)
  have wt0_1t0_3 := fk_swap (a := e0) (b := t0_3) (a' := e0) (b' := t0_1) (fun x => by rw [← hnt0_3t0_1]; exact x.2)
  refine gwp_heap (H' := fillKey (fillKey (fillKey (cut d G) e0 t0 [.box [.p (.sl (a0.f0.map cTPerm)), arV ((a0.f1 : List TLend_left).map cTLend_left) (e0, t0_1, 0) 6, .p (.sl (a0.f2.map ciu32)), arV ((a0.f3 : List Int).map ciu32) (e0, t0_3, 0) 1, .p (.sl (a0.f4.map cTRat))]]) e0 t0_1 (arO ((a0.f1 : List TLend_left).map cTLend_left))) e0 t0_3 (arO ((a0.f3 : List Int).map ciu32))) ?_ ?_
  · rw [fill_self (B := cut d G) (a := e0) (b := t0) (by rw [cut_app, if_pos he0]; exact hGt0), fill_self (B := cut d G) (a := e0) (b := t0_1) (by rw [cut_app, if_pos he0]; exact hGt0_1), fill_self (B := cut d G) (a := e0) (b := t0_3) (by rw [cut_app, if_pos he0]; exact hGt0_3)]
  generalize hQ : callPost _ _ _ _ _ = Q
  obtain ⟨v1, hv1, h⟩ := bs h
  replace hv1 := gis hv1
  simp -implicitDefEqProofs only [go_sem, he0, le0, qe0, pe0, hnt0t0_1, hnt0t0_3, hnt0_1t0, hnt0_1t0_3, hnt0_3t0, hnt0_3t0_1, wt0t0_1, wt0t0_3, wt0_1t0_3, hv1]
  obtain ⟨v2, hz, h⟩ := bs h
  obtain ⟨R3, hR3⟩ : ∃ R : St → Prop, R = fun s => s.G = fillKey (fillKey (fillKey (fillKey (cut d G) e0 t0 [.box [.p (.sl (a0.f0.map cTPerm)), arV ((a0.f1 : List TLend_left).map cTLend_left) (e0, t0_1, 0) 6, .p (.sl (a0.f2.map ciu32)), arV ((a0.f3 : List Int).map ciu32) (e0, t0_3, 0) 1, .p (.sl (a0.f4.map cTRat))]]) e0 t0_1 (arO ((a0.f1 : List TLend_left).map cTLend_left))) e0 t0_3 (arO ((a0.f3 : List Int).map ciu32))) (d + 1) 5 [.box [.p (.str a2.f0), .p (.bool a2.f1), .p (.str a2.f2), .p (.int .i64 a2.f3), .p (.int .i64 a2.f4.f0), .p (.int .i64 a2.f4.f1), .p (.int .u32 a2.f5), .p (.int .u32 a2.f6), .p (.int .u32 a2.f7)]] ∧ s.F 0 = .bp (e0, t0, 0) 0 ∧ s.F 1 = .p (.int .i64 a1) ∧ s.F 5 = .bp (d + 1, 5, 0) 0 ∧ s.F 7 = .p (.bool (decide (v1.f0 = 0))) ∧ s.F 8 = .p (.bool v2) ∧ True := ⟨_, rfl⟩
  refine cutR R3 ?_ ?_
  · replace h := hz
    rcases ib h with ⟨c4, h⟩ | ⟨c4, h⟩
    · cases h
      simp -implicitDefEqProofs only [go_sem, he0, le0, qe0, pe0, hnt0t0_1, hnt0t0_3, hnt0_1t0, hnt0_1t0_3, hnt0_3t0, hnt0_3t0_1, wt0t0_1, wt0t0_3, wt0_1t0_3, hv1, c4]
      rw [hR3]
      simp -implicitDefEqProofs only [go_sem, he0, le0, qe0, pe0, hnt0t0_1, hnt0t0_3, hnt0_1t0, hnt0_1t0_3, hnt0_3t0, hnt0_3t0_1, wt0t0_1, wt0t0_3, wt0_1t0_3, hv1, c4]
    · cases h
      simp -implicitDefEqProofs only [go_sem, he0, le0, qe0, pe0, hnt0t0_1, hnt0t0_3, hnt0_1t0, hnt0_1t0_3, hnt0_3t0, hnt0_3t0_1, wt0t0_1, wt0t0_3, wt0_1t0_3, hv1, c4]
      rw [hR3]
      simp -implicitDefEqProofs only [go_sem, he0, le0, qe0, pe0, hnt0t0_1, hnt0t0_3, hnt0_1t0, hnt0_1t0_3, hnt0_3t0, hnt0_3t0_1, wt0t0_1, wt0t0_3, wt0_1t0_3, hv1, c4]
  · replace h := h; clear hz
    rintro s i
    rw [hR3] at i
    obtain ⟨gi5, i5⟩ := i
    clear hR3
    try dsimp only at h
    simp -implicitDefEqProofs only [go_sem, he0, le0, qe0, pe0, hnt0t0_1, hnt0t0_3, hnt0_1t0, hnt0_1t0_3, hnt0_3t0, hnt0_3t0_1, wt0t0_1, wt0t0_3, wt0_1t0_3, hv1, gi5, i5]
    obtain ⟨v6, hz, h⟩ := bs h
    obtain ⟨R7, hR7⟩ : ∃ R : St → Prop, R = fun s => s.G = fillKey (fillKey (fillKey (fillKey (cut d G) e0 t0 [.box [.p (.sl (a0.f0.map cTPerm)), arV ((a0.f1 : List TLend_left).map cTLend_left) (e0, t0_1, 0) 6, .p (.sl (a0.f2.map ciu32)), arV ((a0.f3 : List Int).map ciu32) (e0, t0_3, 0) 1, .p (.sl (a0.f4.map cTRat))]]) e0 t0_1 (arO ((a0.f1 : List TLend_left).map cTLend_left))) e0 t0_3 (arO ((a0.f3 : List Int).map ciu32))) (d + 1) 5 [.box [.p (.str a2.f0), .p (.bool a2.f1), .p (.str a2.f2), .p (.int .i64 a2.f3), .p (.int .i64 a2.f4.f0), .p (.int .i64 a2.f4.f1), .p (.int .u32 a2.f5), .p (.int .u32 a2.f6), .p (.int .u32 a2.f7)]] ∧ s.F 0 = .bp (e0, t0, 0) 0 ∧ s.F 1 = .p (.int .i64 a1) ∧ s.F 5 = .bp (d + 1, 5, 0) 0 ∧ s.F 7 = .p (.bool (decide (v1.f0 = 0))) ∧ s.F 8 = .p (.bool v2) ∧ s.F 26 = .p (.bool v6) ∧ True := ⟨_, rfl⟩
    refine cutR R7 ?_ ?_
    · replace h := hz
      rcases ib h with ⟨c8, h⟩ | ⟨c8, h⟩
      · cases h
        simp -implicitDefEqProofs only [go_sem, he0, le0, qe0, pe0, hnt0t0_1, hnt0t0_3, hnt0_1t0, hnt0_1t0_3, hnt0_3t0, hnt0_3t0_1, wt0t0_1, wt0t0_3, wt0_1t0_3, hv1, gi5, i5, c8]
        rw [hR7]
        simp -implicitDefEqProofs only [go_sem, he0, le0, qe0, pe0, hnt0t0_1, hnt0t0_3, hnt0_1t0, hnt0_1t0_3, hnt0_3t0, hnt0_3t0_1, wt0t0_1, wt0t0_3, wt0_1t0_3, hv1, gi5, i5, c8]
      · cases h
        simp -implicitDefEqProofs only [go_sem, he0, le0, qe0, pe0, hnt0t0_1, hnt0t0_3, hnt0_1t0, hnt0_1t0_3, hnt0_3t0, hnt0_3t0_1, wt0t0_1, wt0t0_3, wt0_1t0_3, hv1, gi5, i5, c8]
        rw [hR7]
        simp -implicitDefEqProofs only [go_sem, he0, le0, qe0, pe0, hnt0t0_1, hnt0t0_3, hnt0_1t0, hnt0_1t0_3, hnt0_3t0, hnt0_3t0_1, wt0t0_1, wt0t0_3, wt0_1t0_3, hv1, gi5, i5, c8]
    · replace h := h; clear hz
      rintro s i
      rw [hR7] at i
      obtain ⟨gi9, i9⟩ := i
      clear hR7
      try dsimp only at h
      simp -implicitDefEqProofs only [go_sem, he0, le0, qe0, pe0, hnt0t0_1, hnt0t0_3, hnt0_1t0, hnt0_1t0_3, hnt0_3t0, hnt0_3t0_1, wt0t0_1, wt0t0_3, wt0_1t0_3, hv1, gi5, i5, gi9, i9]
      obtain ⟨v10, hz, h⟩ := bs h
      obtain ⟨R11, hR11⟩ : ∃ R : St → Prop, R = fun s => s.G = fillKey (fillKey (fillKey (fillKey (cut d G) e0 t0 [.box [.p (.sl (a0.f0.map cTPerm)), arV ((a0.f1 : List TLend_left).map cTLend_left) (e0, t0_1, 0) 6, .p (.sl (a0.f2.map ciu32)), arV ((v10 : List Int).map ciu32) (e0, t0_3, 0) 1, .p (.sl (a0.f4.map cTRat))]]) e0 t0_1 (arO ((a0.f1 : List TLend_left).map cTLend_left))) e0 t0_3 (arO ((v10 : List Int).map ciu32))) (d + 1) 5 [.box [.p (.str a2.f0), .p (.bool a2.f1), .p (.str a2.f2), .p (.int .i64 a2.f3), .p (.int .i64 a2.f4.f0), .p (.int .i64 a2.f4.f1), .p (.int .u32 a2.f5), .p (.int .u32 a2.f6), .p (.int .u32 a2.f7)]] ∧ s.F 0 = .bp (e0, t0, 0) 0 ∧ s.F 1 = .p (.int .i64 a1) ∧ s.F 5 = .bp (d + 1, 5, 0) 0 ∧ s.F 7 = .p (.bool (decide (v1.f0 = 0))) ∧ s.F 8 = .p (.bool v2) ∧ True := ⟨_, rfl⟩
      refine cutG R11 ?_ ?_
      · replace h := hz
        rcases ib h with ⟨c12, h⟩ | ⟨c12, h⟩
        · obtain ⟨_, c13, h⟩ := bs h
          replace c13 := rqs c13
          obtain ⟨_, c14, h⟩ := bs h
          replace c14 := rqs c14
          have c15 := ne_of_idx c13 c14
          obtain ⟨v16, hv16, h⟩ := bs h
          replace hv16 := gis hv16
          cases h
          simp -implicitDefEqProofs only [go_sem, he0, le0, qe0, pe0, hnt0t0_1, hnt0t0_3, hnt0_1t0, hnt0_1t0_3, hnt0_3t0, hnt0_3t0_1, wt0t0_1, wt0t0_3, wt0_1t0_3, hv1, gi5, i5, gi9, i9, c12, c13, c14, c15, hv16]
          rw [hR11]
          simp -implicitDefEqProofs only [go_sem, he0, le0, qe0, pe0, hnt0t0_1, hnt0t0_3, hnt0_1t0, hnt0_1t0_3, hnt0_3t0, hnt0_3t0_1, wt0t0_1, wt0t0_3, wt0_1t0_3, hv1, gi5, i5, gi9, i9, c12, c13, c14, c15, hv16]
        · simp -implicitDefEqProofs only [go_sem, he0, le0, qe0, pe0, hnt0t0_1, hnt0t0_3, hnt0_1t0, hnt0_1t0_3, hnt0_3t0, hnt0_3t0_1, wt0t0_1, wt0t0_3, wt0_1t0_3, hv1, gi5, i5, gi9, i9, c12]
          obtain ⟨v17, hz, h⟩ := bs h
          obtain ⟨R18, hR18⟩ : ∃ R : St → Prop, R = fun s => s.G = fillKey (fillKey (fillKey (fillKey (cut d G) e0 t0 [.box [.p (.sl (a0.f0.map cTPerm)), arV ((a0.f1 : List TLend_left).map cTLend_left) (e0, t0_1, 0) 6, .p (.sl (a0.f2.map ciu32)), arV ((a0.f3 : List Int).map ciu32) (e0, t0_3, 0) 1, .p (.sl (a0.f4.map cTRat))]]) e0 t0_1 (arO ((a0.f1 : List TLend_left).map cTLend_left))) e0 t0_3 (arO ((a0.f3 : List Int).map ciu32))) (d + 1) 5 [.box [.p (.str a2.f0), .p (.bool a2.f1), .p (.str a2.f2), .p (.int .i64 a2.f3), .p (.int .i64 a2.f4.f0), .p (.int .i64 a2.f4.f1), .p (.int .u32 a2.f5), .p (.int .u32 a2.f6), .p (.int .u32 a2.f7)]] ∧ s.F 0 = .bp (e0, t0, 0) 0 ∧ s.F 1 = .p (.int .i64 a1) ∧ s.F 5 = .bp (d + 1, 5, 0) 0 ∧ s.F 7 = .p (.bool (decide (v1.f0 = 0))) ∧ s.F 8 = .p (.bool v2) ∧ s.F 43 = .p (.bool v17) ∧ True := ⟨_, rfl⟩
          refine cutR R18 ?_ ?_
          · replace h := hz
            rcases ib h with ⟨c19, h⟩ | ⟨c19, h⟩
            · cases h
              simp -implicitDefEqProofs only [go_sem, he0, le0, qe0, pe0, hnt0t0_1, hnt0t0_3, hnt0_1t0, hnt0_1t0_3, hnt0_3t0, hnt0_3t0_1, wt0t0_1, wt0t0_3, wt0_1t0_3, hv1, gi5, i5, gi9, i9, c12, c19]
              rw [hR18]
              simp -implicitDefEqProofs only [go_sem, he0, le0, qe0, pe0, hnt0t0_1, hnt0t0_3, hnt0_1t0, hnt0_1t0_3, hnt0_3t0, hnt0_3t0_1, wt0t0_1, wt0t0_3, wt0_1t0_3, hv1, gi5, i5, gi9, i9, c12, c19]
            · cases h
              simp -implicitDefEqProofs only [go_sem, he0, le0, qe0, pe0, hnt0t0_1, hnt0t0_3, hnt0_1t0, hnt0_1t0_3, hnt0_3t0, hnt0_3t0_1, wt0t0_1, wt0t0_3, wt0_1t0_3, hv1, gi5, i5, gi9, i9, c12, c19]
              rw [hR18]
              simp -implicitDefEqProofs only [go_sem, he0, le0, qe0, pe0, hnt0t0_1, hnt0t0_3, hnt0_1t0, hnt0_1t0_3, hnt0_3t0, hnt0_3t0_1, wt0t0_1, wt0t0_3, wt0_1t0_3, hv1, gi5, i5, gi9, i9, c12, c19]
          · replace h := h; clear hz
            rintro s i
            rw [hR18] at i
            obtain ⟨gi20, i20⟩ := i
            clear hR18
            try dsimp only at h
            simp -implicitDefEqProofs only [go_sem, he0, le0, qe0, pe0, hnt0t0_1, hnt0t0_3, hnt0_1t0, hnt0_1t0_3, hnt0_3t0, hnt0_3t0_1, wt0t0_1, wt0t0_3, wt0_1t0_3, hv1, gi5, i5, gi9, i9, c12, gi20, i20]
            obtain ⟨v21, hz, h⟩ := bs h
            obtain ⟨R22, hR22⟩ : ∃ R : St → Prop, R = fun s => s.G = fillKey (fillKey (fillKey (fillKey (cut d G) e0 t0 [.box [.p (.sl (a0.f0.map cTPerm)), arV ((a0.f1 : List TLend_left).map cTLend_left) (e0, t0_1, 0) 6, .p (.sl (a0.f2.map ciu32)), arV ((v21 : List Int).map ciu32) (e0, t0_3, 0) 1, .p (.sl (a0.f4.map cTRat))]]) e0 t0_1 (arO ((a0.f1 : List TLend_left).map cTLend_left))) e0 t0_3 (arO ((v21 : List Int).map ciu32))) (d + 1) 5 [.box [.p (.str a2.f0), .p (.bool a2.f1), .p (.str a2.f2), .p (.int .i64 a2.f3), .p (.int .i64 a2.f4.f0), .p (.int .i64 a2.f4.f1), .p (.int .u32 a2.f5), .p (.int .u32 a2.f6), .p (.int .u32 a2.f7)]] ∧ s.F 0 = .bp (e0, t0, 0) 0 ∧ s.F 1 = .p (.int .i64 a1) ∧ s.F 5 = .bp (d + 1, 5, 0) 0 ∧ s.F 7 = .p (.bool (decide (v1.f0 = 0))) ∧ s.F 8 = .p (.bool v2) ∧ True := ⟨_, rfl⟩
            refine cutG R22 ?_ ?_
            · replace h := hz
              rcases ib h with ⟨c23, h⟩ | ⟨c23, h⟩
              · obtain ⟨_, c24, h⟩ := bs h
                replace c24 := rqs c24
                obtain ⟨_, c25, h⟩ := bs h
                replace c25 := rqs c25
                have c26 := ne_of_idx c24 c25
                obtain ⟨v27, hv27, h⟩ := bs h
                replace hv27 := gis hv27
                cases h
                simp -implicitDefEqProofs only [go_sem, he0, le0, qe0, pe0, hnt0t0_1, hnt0t0_3, hnt0_1t0, hnt0_1t0_3, hnt0_3t0, hnt0_3t0_1, wt0t0_1, wt0t0_3, wt0_1t0_3, hv1, gi5, i5, gi9, i9, c12, gi20, i20, c23, c24, c25, c26, hv27]
                rw [hR22]
                simp -implicitDefEqProofs only [go_sem, he0, le0, qe0, pe0, hnt0t0_1, hnt0t0_3, hnt0_1t0, hnt0_1t0_3, hnt0_3t0, hnt0_3t0_1, wt0t0_1, wt0t0_3, wt0_1t0_3, hv1, gi5, i5, gi9, i9, c12, gi20, i20, c23, c24, c25, c26, hv27]
              · cases h
                simp -implicitDefEqProofs only [go_sem, he0, le0, qe0, pe0, hnt0t0_1, hnt0t0_3, hnt0_1t0, hnt0_1t0_3, hnt0_3t0, hnt0_3t0_1, wt0t0_1, wt0t0_3, wt0_1t0_3, hv1, gi5, i5, gi9, i9, c12, gi20, i20, c23]
                rw [hR22]
                simp -implicitDefEqProofs only [go_sem, he0, le0, qe0, pe0, hnt0t0_1, hnt0t0_3, hnt0_1t0, hnt0_1t0_3, hnt0_3t0, hnt0_3t0_1, wt0t0_1, wt0t0_3, wt0_1t0_3, hv1, gi5, i5, gi9, i9, c12, gi20, i20, c23]
            · replace h := h; clear hz
              rintro s i
              rw [hR22] at i
              obtain ⟨gi28, i28⟩ := i
              clear hR22
              try dsimp only at h
              cases h
              simp -implicitDefEqProofs only [go_sem, he0, le0, qe0, pe0, hnt0t0_1, hnt0t0_3, hnt0_1t0, hnt0_1t0_3, hnt0_3t0, hnt0_3t0_1, wt0t0_1, wt0t0_3, wt0_1t0_3, hv1, gi5, i5, gi9, i9, c12, gi20, i20, gi28, i28]
              rw [hR11]
              simp -implicitDefEqProofs only [go_sem, he0, le0, qe0, pe0, hnt0t0_1, hnt0t0_3, hnt0_1t0, hnt0_1t0_3, hnt0_3t0, hnt0_3t0_1, wt0t0_1, wt0t0_3, wt0_1t0_3, hv1, gi5, i5, gi9, i9, c12, gi20, i20, gi28, i28]
      · replace h := h; clear hz
        rintro s i
        rw [hR11] at i
        obtain ⟨gi29, i29⟩ := i
        clear hR11
        try dsimp only at h
        rcases ib h with ⟨c30, h⟩ | ⟨c30, h⟩
        · obtain ⟨v31, hv31, h⟩ := bs h
          replace hv31 := gis hv31
          rcases ib h with ⟨c32, h⟩ | ⟨c32, h⟩
          · cases h
            subst hQ
            simp -implicitDefEqProofs only [go_sem, he0, le0, qe0, pe0, hnt0t0_1, hnt0t0_3, hnt0_1t0, hnt0_1t0_3, hnt0_3t0, hnt0_3t0_1, wt0t0_1, wt0t0_3, wt0_1t0_3, hv1, gi5, i5, gi9, i9, gi29, i29, c30, hv31, c32, Try.results56]
          · rcases ib h with ⟨c33, h⟩ | ⟨c33, h⟩
            · simp only [c33, beq_tt, tt_beq, beq_ff, ff_beq, Bool.not_true, Bool.not_false, not_not_b, Bool.true_eq_false, Bool.false_eq_true] at c30
            · cases h
              subst hQ
              simp -implicitDefEqProofs only [go_sem, he0, le0, qe0, pe0, hnt0t0_1, hnt0t0_3, hnt0_1t0, hnt0_1t0_3, hnt0_3t0, hnt0_3t0_1, wt0t0_1, wt0t0_3, wt0_1t0_3, hv1, gi5, i5, gi9, i9, gi29, i29, c30, hv31, c32, c33, Try.results56]
        · rcases ib h with ⟨c34, h⟩ | ⟨c34, h⟩
          · rcases ib h with ⟨c35, h⟩ | ⟨c35, h⟩
            · obtain ⟨v36, hv36, h⟩ := bs h
              replace hv36 := gis hv36
              rcases ib h with ⟨c37, h⟩ | ⟨c37, h⟩
              · cases h
                subst hQ
                simp -implicitDefEqProofs only [go_sem, he0, le0, qe0, pe0, hnt0t0_1, hnt0t0_3, hnt0_1t0, hnt0_1t0_3, hnt0_3t0, hnt0_3t0_1, wt0t0_1, wt0t0_3, wt0_1t0_3, hv1, gi5, i5, gi9, i9, gi29, i29, c30, c34, c35, hv36, c37, Try.results56]
              · cases h
                subst hQ
                simp -implicitDefEqProofs only [go_sem, he0, le0, qe0, pe0, hnt0t0_1, hnt0t0_3, hnt0_1t0, hnt0_1t0_3, hnt0_3t0, hnt0_3t0_1, wt0t0_1, wt0t0_3, wt0_1t0_3, hv1, gi5, i5, gi9, i9, gi29, i29, c30, c34, c35, hv36, c37, Try.results56]
            · cases h
              subst hQ
              simp -implicitDefEqProofs only [go_sem, he0, le0, qe0, pe0, hnt0t0_1, hnt0t0_3, hnt0_1t0, hnt0_1t0_3, hnt0_3t0, hnt0_3t0_1, wt0t0_1, wt0t0_3, wt0_1t0_3, hv1, gi5, i5, gi9, i9, gi29, i29, c30, c34, c35, Try.results56]
          · simp only [c34, beq_tt, tt_beq, beq_ff, ff_beq, Bool.not_true, Bool.not_false, not_not_b, Bool.true_eq_false, Bool.false_eq_true] at c30
theorem m_lend_caller_lent_ev (a0 : TLend_caller) (a1 : Int) (a2 : TContract) (r0 : Int × TLend_caller) (h : m_lend_caller_lent a0 a1 a2 = some r0) (d : Nat) (G : Heap) (e0 t0 t0_1 t0_3 : Nat) (he0 : e0 ≤ d) (hGt0 : G e0 t0 = [.box [.p (.sl (a0.f0.map cTPerm)), arV ((a0.f1 : List TLend_left).map cTLend_left) (e0, t0_1, 0) 6, .p (.sl (a0.f2.map ciu32)), arV ((a0.f3 : List Int).map ciu32) (e0, t0_3, 0) 1, .p (.sl (a0.f4.map cTRat))]]) (hGt0_1 : G e0 t0_1 = arO ((a0.f1 : List TLend_left).map cTLend_left)) (hGt0_3 : G e0 t0_3 = arO ((a0.f3 : List Int).map ciu32)) (hnt0t0_1 : (t0 = t0_1) = False) (hnt0t0_3 : (t0 = t0_3) = False) (hnt0_1t0 : (t0_1 = t0) = False) (hnt0_1t0_3 : (t0_1 = t0_3) = False) (hnt0_3t0 : (t0_3 = t0) = False) (hnt0_3t0_1 : (t0_3 = t0_1) = False) : Tel Try.prog TB d 31 [.bp (e0, t0, 0) 0, .p (.int .i64 a1), .agg ((cTContract a2).map .p)] G (.p (.int .i64 r0.1)) (fillKey (fillKey (fillKey (G) e0 t0 ([.box [.p (.sl (r0.2.f0.map cTPerm)), arV ((r0.2.f1 : List TLend_left).map cTLend_left) (e0, t0_1, 0) 6, .p (.sl (r0.2.f2.map ciu32)), arV ((r0.2.f3 : List Int).map ciu32) (e0, t0_3, 0) 1, .p (.sl (r0.2.f4.map cTRat))]])) e0 t0_1 (arO ((r0.2.f1 : List TLend_left).map cTLend_left))) e0 t0_3 (arO ((r0.2.f3 : List Int).map ciu32))) := by
  unfold m_lend_caller_lent at h
  refine Tel.intro mix Try.func31 rfl (Nat.le_of_ble_eq_true rfl) {openAt := fun t => t == 69 || t == 87, drwAt := fun t => t == 69, frzAt := fun t => t == 52 || t == 70, watch := fun t => if t = 69 then [9, 64] else [], wkey := fun t => if t = 9 then some ((d + 1, 9, 0), 1000000) else if t = 64 then some ((d + 1, 5, 0), 1000004) else none, boxAt := fun t => if t = 5 then some 5 else if t = 7 then some 7 else if t = 9 then some 9 else none} (by kernel_rfl) (by kernel_rfl) ?_
  have le0 : (e0 ≤ d + 1) = True := by simp; omega
  have qe0 : (e0 = d + 1) = False := by simp; omega
  have pe0 : (d + 1 = e0) = False := by simp; omega
  have wt0t0_1 := fk_swap (a := e0) (b := t0_1) (a' := e0) (b' := t0) (fun x => by rw [← hnt0_1t0]; exact x.2)
  have wt0t0_3 := fk_swap (a := e0) (b := t0_3) (a' := e0) (b' := t0) (fun x => by rw [← hnt0_3t0]; exact x.2)
  have wt0_1t0_3 := fk_swap (a := e0) (b := t0_3) (a' := e0) (b' := t0_1) (fun x => by rw [← hnt0_3t0_1]; exact x.2)
  refine gwp_heap (H' := fillKey (fillKey (fillKey (cut d G) e0 t0 [.box [.p (.sl (a0.f0.map cTPerm)), arV ((a0.f1 : List TLend_left).map cTLend_left) (e0, t0_1, 0) 6, .p (.sl (a0.f2.map ciu32)), arV ((a0.f3 : List Int).map ciu32) (e0, t0_3, 0) 1, .p (.sl (a0.f4.map cTRat))]]) e0 t0_1 (arO ((a0.f1 : List TLend_left).map cTLend_left))) e0 t0_3 (arO ((a0.f3 : List Int).map ciu32))) ?_ ?_
  · rw [fill_self (B := cut d G) (a := e0) (b := t0) (by rw [cut_app, if_pos he0]; exact hGt0), fill_self (B := cut d G) (a := e0) (b := t0_1) (by rw [cut_app, if_pos he0]; exact hGt0_1), fill_self (B := cut d G) (a := e0) (b := t0_3) (by rw [cut_app, if_pos he0]; exact hGt0_3)]
  generalize hQ : callPost _ _ _ _ _ = Q
  simp -implicitDefEqProofs only [go_sem, he0, le0, qe0, pe0, hnt0t0_1, hnt0t0_3, hnt0_1t0, hnt0_1t0_3, hnt0_3t0, hnt0_3t0_1, wt0t0_1, wt0t0_3, wt0_1t0_3]
  obtain ⟨v1, hz, h⟩ := bs h
  obtain ⟨R2, hR2⟩ : ∃ R : St → Prop, R = fun s => s.G = fillKey (fillKey (fillKey (fillKey (cut d G) e0 t0 [.box [.p (.sl (a0.f0.map cTPerm)), arV ((a0.f1 : List TLend_left).map cTLend_left) (e0, t0_1, 0) 6, .p (.sl (a0.f2.map ciu32)), arV ((a0.f3 : List Int).map ciu32) (e0, t0_3, 0) 1, .p (.sl (a0.f4.map cTRat))]]) e0 t0_1 (arO ((a0.f1 : List TLend_left).map cTLend_left))) e0 t0_3 (arO ((a0.f3 : List Int).map ciu32))) (d + 1) 5 [.box [.p (.str a2.f0), .p (.bool a2.f1), .p (.str a2.f2), .p (.int .i64 a2.f3), .p (.int .i64 a2.f4.f0), .p (.int .i64 a2.f4.f1), .p (.int .u32 a2.f5), .p (.int .u32 a2.f6), .p (.int .u32 a2.f7)]] ∧ s.F 0 = .bp (e0, t0, 0) 0 ∧ s.F 1 = .p (.int .i64 a1) ∧ s.F 5 = .bp (d + 1, 5, 0) 0 ∧ s.F 41 = .p (.bool v1) ∧ True := ⟨_, rfl⟩
  refine cutR R2 ?_ ?_
  · replace h := hz
    rcases ib h with ⟨c3, h⟩ | ⟨c3, h⟩
    · cases h
      simp -implicitDefEqProofs only [go_sem, he0, le0, qe0, pe0, hnt0t0_1, hnt0t0_3, hnt0_1t0, hnt0_1t0_3, hnt0_3t0, hnt0_3t0_1, wt0t0_1, wt0t0_3, wt0_1t0_3, c3]
      rw [hR2]
      simp -implicitDefEqProofs only [go_sem, he0, le0, qe0, pe0, hnt0t0_1, hnt0t0_3, hnt0_1t0, hnt0_1t0_3, hnt0_3t0, hnt0_3t0_1, wt0t0_1, wt0t0_3, wt0_1t0_3, c3]
    · rcases ib h with ⟨c4, h⟩ | ⟨c4, h⟩
      · cases h
        simp -implicitDefEqProofs only [go_sem, he0, le0, qe0, pe0, hnt0t0_1, hnt0t0_3, hnt0_1t0, hnt0_1t0_3, hnt0_3t0, hnt0_3t0_1, wt0t0_1, wt0t0_3, wt0_1t0_3, c3, c4]
        rw [hR2]
        simp -implicitDefEqProofs only [go_sem, he0, le0, qe0, pe0, hnt0t0_1, hnt0t0_3, hnt0_1t0, hnt0_1t0_3, hnt0_3t0, hnt0_3t0_1, wt0t0_1, wt0t0_3, wt0_1t0_3, c3, c4]
      · rcases ib h with ⟨c5, h⟩ | ⟨c5, h⟩
        · cases h
          simp -implicitDefEqProofs only [go_sem, he0, le0, qe0, pe0, hnt0t0_1, hnt0t0_3, hnt0_1t0, hnt0_1t0_3, hnt0_3t0, hnt0_3t0_1, wt0t0_1, wt0t0_3, wt0_1t0_3, c3, c4, c5]
          rw [hR2]
          simp -implicitDefEqProofs only [go_sem, he0, le0, qe0, pe0, hnt0t0_1, hnt0t0_3, hnt0_1t0, hnt0_1t0_3, hnt0_3t0, hnt0_3t0_1, wt0t0_1, wt0t0_3, wt0_1t0_3, c3, c4, c5]
        · obtain ⟨_, c6, h⟩ := bs h
          replace c6 := rqs c6
          obtain ⟨_, c7, h⟩ := bs h
          replace c7 := rqs c7
          have c8 := ne_of_idx c6 c7
          obtain ⟨v9, hv9, h⟩ := bs h
          replace hv9 := gis hv9
          cases h
          simp -implicitDefEqProofs only [go_sem, he0, le0, qe0, pe0, hnt0t0_1, hnt0t0_3, hnt0_1t0, hnt0_1t0_3, hnt0_3t0, hnt0_3t0_1, wt0t0_1, wt0t0_3, wt0_1t0_3, c3, c4, c5, c6, c7, c8, hv9]
          rw [hR2]
          simp -implicitDefEqProofs only [go_sem, he0, le0, qe0, pe0, hnt0t0_1, hnt0t0_3, hnt0_1t0, hnt0_1t0_3, hnt0_3t0, hnt0_3t0_1, wt0t0_1, wt0t0_3, wt0_1t0_3, c3, c4, c5, c6, c7, c8, hv9]
  · replace h := h; clear hz
    rintro s i
    rw [hR2] at i
    obtain ⟨gi10, i10⟩ := i
    clear hR2
    try dsimp only at h
    rcases ib h with ⟨c11, h⟩ | ⟨c11, h⟩
    · cases h
      subst hQ
      simp -implicitDefEqProofs only [go_sem, he0, le0, qe0, pe0, hnt0t0_1, hnt0t0_3, hnt0_1t0, hnt0_1t0_3, hnt0_3t0, hnt0_3t0_1, wt0t0_1, wt0t0_3, wt0_1t0_3, gi10, i10, c11, Try.results31]
    · obtain ⟨_, c12, h⟩ := bs h
      replace c12 := rqs c12
      obtain ⟨_, c13, h⟩ := bs h
      replace c13 := rqs c13
      have c14 := ne_of_idx c12 c13
      obtain ⟨v15, hv15, h⟩ := bs h
      replace hv15 := gis hv15
      obtain ⟨r16, hr16, h⟩ := bs h
      simp -implicitDefEqProofs only [go_sem, he0, le0, qe0, pe0, hnt0t0_1, hnt0t0_3, hnt0_1t0, hnt0_1t0_3, hnt0_3t0, hnt0_3t0_1, wt0t0_1, wt0t0_3, wt0_1t0_3, gi10, i10, c11, c12, c13, c14, hv15]
      refine call_frz (r' := .tup [.agg [.p (.int .i64 r16.1.f0), .p (.int .i64 r16.1.f1.f0), .p (.int .i64 r16.1.f1.f1), .p (.int .i64 r16.1.f2), .p (.int .u32 r16.1.f3)], .p (.bool r16.2.1), .agg [.p (.int .i64 r16.2.2.1.f0), .p (.int .i64 r16.2.2.1.f1.f0), .p (.int .i64 r16.2.2.1.f1.f1), .p (.int .i64 r16.2.2.1.f2), .p (.int .u32 r16.2.2.1.f3)], .p (.int .i64 r16.2.2.2)]) (m_perm_Lend_ev v15.f0 a2 r16 hr16 (d + 1) empty) (by simp -implicitDefEqProofs only [go_sem, he0, le0, qe0, pe0, hnt0t0_1, hnt0t0_3, hnt0_1t0, hnt0_1t0_3, hnt0_3t0, hnt0_3t0_1, wt0t0_1, wt0t0_3, wt0_1t0_3, gi10, i10, c11, c12, c13, c14, hv15]) rfl (by simp -implicitDefEqProofs only [go_sem]) (by simp -implicitDefEqProofs only [go_sem]) ?_ rfl rfl
      rcases ib h with ⟨c17, h⟩ | ⟨c17, h⟩
      · cases h
        subst hQ
        simp -implicitDefEqProofs only [go_sem, he0, le0, qe0, pe0, hnt0t0_1, hnt0t0_3, hnt0_1t0, hnt0_1t0_3, hnt0_3t0, hnt0_3t0_1, wt0t0_1, wt0t0_3, wt0_1t0_3, gi10, i10, c11, c12, c13, c14, hv15, c17, Try.results31]
      · rcases ib h with ⟨c18, h⟩ | ⟨c18, h⟩
        · cases h
          subst hQ
          simp -implicitDefEqProofs only [go_sem, he0, le0, qe0, pe0, hnt0t0_1, hnt0t0_3, hnt0_1t0, hnt0_1t0_3, hnt0_3t0, hnt0_3t0_1, wt0t0_1, wt0t0_3, wt0_1t0_3, gi10, i10, c11, c12, c13, c14, hv15, c17, c18, Try.results31]
        · obtain ⟨r19, hr19, h⟩ := bs h
          simp -implicitDefEqProofs only [go_sem, he0, le0, qe0, pe0, hnt0t0_1, hnt0t0_3, hnt0_1t0, hnt0_1t0_3, hnt0_3t0, hnt0_3t0_1, wt0t0_1, wt0t0_3, wt0_1t0_3, gi10, i10, c11, c12, c13, c14, hv15, c17, c18]
          have cl20 : (r19.2.f1).length = ((a0.f1 : List TLend_left)).length := by have := len_least1 hr19; (try simp only [List.length_set] at this); first | exact this | exact this.trans rfl
          have cv20 := arV_len (c := cTLend_left) (κ := (e0, t0_1, 0)) (n := 6) cl20
          have ce20 := nil_len cl20
          have cl21 : (r19.2.f3).length = ((a0.f3 : List Int)).length := by have := len_least3 hr19; (try simp only [List.length_set] at this); first | exact this | exact this.trans rfl
          have cv21 := arV_len (c := ciu32) (κ := (e0, t0_3, 0)) (n := 1) cl21
          have ce21 := nil_len cl21
          refine call_drwL (t0 := 999) (r := .agg [.p (.int .i64 r19.1.f0), .p (.int .i64 r19.1.f1)]) [(e0, t0, [.box [.p (.sl (r19.2.f0.map cTPerm)), arV ((r19.2.f1 : List TLend_left).map cTLend_left) (e0, t0_1, 0) 6, .p (.sl (r19.2.f2.map ciu32)), arV ((r19.2.f3 : List Int).map ciu32) (e0, t0_3, 0) 1, .p (.sl (r19.2.f4.map cTRat))]]), (e0, t0_1, arO ((r19.2.f1 : List TLend_left).map cTLend_left)), (e0, t0_3, arO ((r19.2.f3 : List Int).map ciu32))] (fun H => m_lend_caller_least_ev a0 r16.2.2.1.f2 r19 hr19 (d + 1) _ e0 t0 t0_1 t0_3 (Nat.le_succ_of_le he0) (by simp -implicitDefEqProofs only [go_sem, he0, le0, qe0, pe0, hnt0t0_1, hnt0t0_3, hnt0_1t0, hnt0_1t0_3, hnt0_3t0, hnt0_3t0_1, wt0t0_1, wt0t0_3, wt0_1t0_3, gi10, i10, c11, c12, c13, c14, hv15, c17, c18]) (by simp -implicitDefEqProofs only [go_sem, he0, le0, qe0, pe0, hnt0t0_1, hnt0t0_3, hnt0_1t0, hnt0_1t0_3, hnt0_3t0, hnt0_3t0_1, wt0t0_1, wt0t0_3, wt0_1t0_3, gi10, i10, c11, c12, c13, c14, hv15, c17, c18]) (by simp -implicitDefEqProofs only [go_sem, he0, le0, qe0, pe0, hnt0t0_1, hnt0t0_3, hnt0_1t0, hnt0_1t0_3, hnt0_3t0, hnt0_3t0_1, wt0t0_1, wt0t0_3, wt0_1t0_3, gi10, i10, c11, c12, c13, c14, hv15, c17, c18]) hnt0t0_1 hnt0t0_3 hnt0_1t0 hnt0_1t0_3 hnt0_3t0 hnt0_3t0_1) (by simp -implicitDefEqProofs only [go_sem, he0, le0, qe0, pe0, hnt0t0_1, hnt0t0_3, hnt0_1t0, hnt0_1t0_3, hnt0_3t0, hnt0_3t0_1, wt0t0_1, wt0t0_3, wt0_1t0_3, gi10, i10, c11, c12, c13, c14, hv15, c17, c18, cl20, cv20, ce20, cl21, cv21, ce21]) rfl (by simp -implicitDefEqProofs only [go_sem, he0, le0, qe0, pe0, hnt0t0_1, hnt0t0_3, hnt0_1t0, hnt0_1t0_3, hnt0_3t0, hnt0_3t0_1, wt0t0_1, wt0t0_3, wt0_1t0_3, gi10, i10, c11, c12, c13, c14, hv15, c17, c18, cl20, cv20, ce20, cl21, cv21, ce21]) (by simp -implicitDefEqProofs only [go_sem, he0, le0, qe0, pe0, hnt0t0_1, hnt0t0_3, hnt0_1t0, hnt0_1t0_3, hnt0_3t0, hnt0_3t0_1, wt0t0_1, wt0t0_3, wt0_1t0_3, gi10, i10, c11, c12, c13, c14, hv15, c17, c18, cl20, cv20, ce20, cl21, cv21, ce21]) (by simp -implicitDefEqProofs only [go_sem]) (by simp -implicitDefEqProofs only [go_sem, he0, le0, qe0, pe0, hnt0t0_1, hnt0t0_3, hnt0_1t0, hnt0_1t0_3, hnt0_3t0, hnt0_3t0_1, wt0t0_1, wt0t0_3, wt0_1t0_3, gi10, i10, c11, c12, c13, c14, hv15, c17, c18, cl20, cv20, ce20, cl21, cv21, ce21]) (by simp -implicitDefEqProofs only [go_sem, he0, le0, qe0, pe0, hnt0t0_1, hnt0t0_3, hnt0_1t0, hnt0_1t0_3, hnt0_3t0, hnt0_3t0_1, wt0t0_1, wt0t0_3, wt0_1t0_3, gi10, i10, c11, c12, c13, c14, hv15, c17, c18, cl20, cv20, ce20, cl21, cv21, ce21]) (fun x hx => by simp only [go_sem, reduceIte, Nat.reduceEqDiff, List.mem_cons, List.not_mem_nil, or_false] at hx; rcases hx with rfl | rfl <;> first | exact ⟨(d + 1, 9, 0), 1000000, rfl, by simp -implicitDefEqProofs only [go_sem, he0, le0, qe0, pe0, hnt0t0_1, hnt0t0_3, hnt0_1t0, hnt0_1t0_3, hnt0_3t0, hnt0_3t0_1, wt0t0_1, wt0t0_3, wt0_1t0_3, gi10, i10, c11, c12, c13, c14, hv15, c17, c18, cl20, cv20, ce20, cl21, cv21, ce21], [.p (.int .i64 r16.2.2.1.f0), .p (.int .i64 r16.2.2.1.f1.f0), .p (.int .i64 r16.2.2.1.f1.f1), .p (.int .i64 r16.2.2.1.f2), .p (.int .u32 r16.2.2.1.f3)], [.p (.int .i64 r16.2.2.1.f0), .p (.int .i64 r16.2.2.1.f1.f0), .p (.int .i64 r16.2.2.1.f1.f1), .p (.int .i64 r16.2.2.1.f2), .p (.int .u32 r16.2.2.1.f3)], by simp -implicitDefEqProofs only [go_sem, he0, le0, qe0, pe0, hnt0t0_1, hnt0t0_3, hnt0_1t0, hnt0_1t0_3, hnt0_3t0, hnt0_3t0_1, wt0t0_1, wt0t0_3, wt0_1t0_3, gi10, i10, c11, c12, c13, c14, hv15, c17, c18, cl20, cv20, ce20, cl21, cv21, ce21], by simp -implicitDefEqProofs only [go_sem, he0, le0, qe0, pe0, hnt0t0_1, hnt0t0_3, hnt0_1t0, hnt0_1t0_3, hnt0_3t0, hnt0_3t0_1, wt0t0_1, wt0t0_3, wt0_1t0_3, gi10, i10, c11, c12, c13, c14, hv15, c17, c18, cl20, cv20, ce20, cl21, cv21, ce21], by simp -implicitDefEqProofs only [go_sem, he0, le0, qe0, pe0, hnt0t0_1, hnt0t0_3, hnt0_1t0, hnt0_1t0_3, hnt0_3t0, hnt0_3t0_1, wt0t0_1, wt0t0_3, wt0_1t0_3, gi10, i10, c11, c12, c13, c14, hv15, c17, c18, cl20, cv20, ce20, cl21, cv21, ce21]⟩ | exact ⟨(d + 1, 5, 0), 1000004, rfl, by simp -implicitDefEqProofs only [go_sem, he0, le0, qe0, pe0, hnt0t0_1, hnt0t0_3, hnt0_1t0, hnt0_1t0_3, hnt0_3t0, hnt0_3t0_1, wt0t0_1, wt0t0_3, wt0_1t0_3, gi10, i10, c11, c12, c13, c14, hv15, c17, c18, cl20, cv20, ce20, cl21, cv21, ce21], [.p (.str a2.f0), .p (.bool a2.f1), .p (.str a2.f2), .p (.int .i64 a2.f3), .p (.int .i64 a2.f4.f0), .p (.int .i64 a2.f4.f1), .p (.int .u32 a2.f5), .p (.int .u32 a2.f6), .p (.int .u32 a2.f7)], [.p (.str a2.f0), .p (.bool a2.f1), .p (.str a2.f2), .p (.int .i64 a2.f3), .p (.int .i64 a2.f4.f0), .p (.int .i64 a2.f4.f1), .p (.int .u32 a2.f5), .p (.int .u32 a2.f6), .p (.int .u32 a2.f7)], by simp -implicitDefEqProofs only [go_sem, he0, le0, qe0, pe0, hnt0t0_1, hnt0t0_3, hnt0_1t0, hnt0_1t0_3, hnt0_3t0, hnt0_3t0_1, wt0t0_1, wt0t0_3, wt0_1t0_3, gi10, i10, c11, c12, c13, c14, hv15, c17, c18, cl20, cv20, ce20, cl21, cv21, ce21], by simp -implicitDefEqProofs only [go_sem, he0, le0, qe0, pe0, hnt0t0_1, hnt0t0_3, hnt0_1t0, hnt0_1t0_3, hnt0_3t0, hnt0_3t0_1, wt0t0_1, wt0t0_3, wt0_1t0_3, gi10, i10, c11, c12, c13, c14, hv15, c17, c18, cl20, cv20, ce20, cl21, cv21, ce21], by simp -implicitDefEqProofs only [go_sem, he0, le0, qe0, pe0, hnt0t0_1, hnt0t0_3, hnt0_1t0, hnt0_1t0_3, hnt0_3t0, hnt0_3t0_1, wt0t0_1, wt0t0_3, wt0_1t0_3, gi10, i10, c11, c12, c13, c14, hv15, c17, c18, cl20, cv20, ce20, cl21, cv21, ce21]⟩) (by simp -implicitDefEqProofs only [go_sem]) ?_
          obtain ⟨r22, hr22, h⟩ := bs h
          simp -implicitDefEqProofs only [go_sem, he0, le0, qe0, pe0, hnt0t0_1, hnt0t0_3, hnt0_1t0, hnt0_1t0_3, hnt0_3t0, hnt0_3t0_1, wt0t0_1, wt0t0_3, wt0_1t0_3, gi10, i10, c11, c12, c13, c14, hv15, c17, c18, cl20, cv20, ce20, cl21, cv21, ce21]
          refine call_frz (r' := .p (.int .i64 r22)) (m_perm_Enough_ev r16.2.2.1 a2.f4 r19.1 r22 hr22 (d + 1) empty) (by simp -implicitDefEqProofs only [go_sem, he0, le0, qe0, pe0, hnt0t0_1, hnt0t0_3, hnt0_1t0, hnt0_1t0_3, hnt0_3t0, hnt0_3t0_1, wt0t0_1, wt0t0_3, wt0_1t0_3, gi10, i10, c11, c12, c13, c14, hv15, c17, c18, cl20, cv20, ce20, cl21, cv21, ce21]) rfl (by simp -implicitDefEqProofs only [go_sem]) (by simp -implicitDefEqProofs only [go_sem]) ?_ rfl rfl
          rcases ib h with ⟨c23, h⟩ | ⟨c23, h⟩
          · cases h
            subst hQ
            simp -implicitDefEqProofs only [go_sem, he0, le0, qe0, pe0, hnt0t0_1, hnt0t0_3, hnt0_1t0, hnt0_1t0_3, hnt0_3t0, hnt0_3t0_1, wt0t0_1, wt0t0_3, wt0_1t0_3, gi10, i10, c11, c12, c13, c14, hv15, c17, c18, cl20, cv20, ce20, cl21, cv21, ce21, c23, Try.results31]
          · rcases ib h with ⟨c24, h⟩ | ⟨c24, h⟩
            · cases h
              subst hQ
              simp -implicitDefEqProofs only [go_sem, he0, le0, qe0, pe0, hnt0t0_1, hnt0t0_3, hnt0_1t0, hnt0_1t0_3, hnt0_3t0, hnt0_3t0_1, wt0t0_1, wt0t0_3, wt0_1t0_3, gi10, i10, c11, c12, c13, c14, hv15, c17, c18, cl20, cv20, ce20, cl21, cv21, ce21, c23, c24, Try.results31]
            · obtain ⟨v25, hv25, h⟩ := bs h
              replace hv25 := gis hv25
              obtain ⟨r26, hr26, h⟩ := bs h
              simp -implicitDefEqProofs only [go_sem, he0, le0, qe0, pe0, hnt0t0_1, hnt0t0_3, hnt0_1t0, hnt0_1t0_3, hnt0_3t0, hnt0_3t0_1, wt0t0_1, wt0t0_3, wt0_1t0_3, gi10, i10, c11, c12, c13, c14, hv15, c17, c18, cl20, cv20, ce20, cl21, cv21, ce21, c23, c24, hv25]
              refine call_open0 (t0 := 999) (r := .p (.int .i64 r26.1)) (m_lend_caller_state_ev (⟨r19.2.f0, (r19.2.f1.set a1.toNat (⟨r16.1, r16.2.1⟩ : TLend_left)), r19.2.f2, r19.2.f3, r19.2.f4⟩ : TLend_caller) a1 a2 r26 hr26 (d + 1) _ e0 t0 t0_1 t0_3 (Nat.le_succ_of_le he0) (by simp -implicitDefEqProofs only [go_sem, he0, le0, qe0, pe0, hnt0t0_1, hnt0t0_3, hnt0_1t0, hnt0_1t0_3, hnt0_3t0, hnt0_3t0_1, wt0t0_1, wt0t0_3, wt0_1t0_3, gi10, i10, c11, c12, c13, c14, hv15, c17, c18, cl20, cv20, ce20, cl21, cv21, ce21, c23, c24, hv25]) (by simp -implicitDefEqProofs only [go_sem, he0, le0, qe0, pe0, hnt0t0_1, hnt0t0_3, hnt0_1t0, hnt0_1t0_3, hnt0_3t0, hnt0_3t0_1, wt0t0_1, wt0t0_3, wt0_1t0_3, gi10, i10, c11, c12, c13, c14, hv15, c17, c18, cl20, cv20, ce20, cl21, cv21, ce21, c23, c24, hv25]) (by simp -implicitDefEqProofs only [go_sem, he0, le0, qe0, pe0, hnt0t0_1, hnt0t0_3, hnt0_1t0, hnt0_1t0_3, hnt0_3t0, hnt0_3t0_1, wt0t0_1, wt0t0_3, wt0_1t0_3, gi10, i10, c11, c12, c13, c14, hv15, c17, c18, cl20, cv20, ce20, cl21, cv21, ce21, c23, c24, hv25]) hnt0t0_1 hnt0t0_3 hnt0_1t0 hnt0_1t0_3 hnt0_3t0 hnt0_3t0_1) (by simp -implicitDefEqProofs only [go_sem, he0, le0, qe0, pe0, hnt0t0_1, hnt0t0_3, hnt0_1t0, hnt0_1t0_3, hnt0_3t0, hnt0_3t0_1, wt0t0_1, wt0t0_3, wt0_1t0_3, gi10, i10, c11, c12, c13, c14, hv15, c17, c18, cl20, cv20, ce20, cl21, cv21, ce21, c23, c24, hv25]) rfl (by simp -implicitDefEqProofs only [go_sem, he0, le0, qe0, pe0, hnt0t0_1, hnt0t0_3, hnt0_1t0, hnt0_1t0_3, hnt0_3t0, hnt0_3t0_1, wt0t0_1, wt0t0_3, wt0_1t0_3, gi10, i10, c11, c12, c13, c14, hv15, c17, c18, cl20, cv20, ce20, cl21, cv21, ce21, c23, c24, hv25]) (by simp -implicitDefEqProofs only [go_sem, he0, le0, qe0, pe0, hnt0t0_1, hnt0t0_3, hnt0_1t0, hnt0_1t0_3, hnt0_3t0, hnt0_3t0_1, wt0t0_1, wt0t0_3, wt0_1t0_3, gi10, i10, c11, c12, c13, c14, hv15, c17, c18, cl20, cv20, ce20, cl21, cv21, ce21, c23, c24, hv25]) (by simp -implicitDefEqProofs only [go_sem]) ?_
              have cl27 : (r26.2.f1).length = ((a0.f1 : List TLend_left)).length := by have := len_state1 hr26; (try simp only [List.length_set] at this); first | exact this | exact this.trans cl20
              have cv27 := arV_len (c := cTLend_left) (κ := (e0, t0_1, 0)) (n := 6) cl27
              have ce27 := nil_len cl27
              have cl28 : (r26.2.f3).length = ((a0.f3 : List Int)).length := by have := len_state3 hr26; (try simp only [List.length_set] at this); first | exact this | exact this.trans cl21
              have cv28 := arV_len (c := ciu32) (κ := (e0, t0_3, 0)) (n := 1) cl28
              have ce28 := nil_len cl28
              cases h
              subst hQ
              simp -implicitDefEqProofs only [go_sem, he0, le0, qe0, pe0, hnt0t0_1, hnt0t0_3, hnt0_1t0, hnt0_1t0_3, hnt0_3t0, hnt0_3t0_1, wt0t0_1, wt0t0_3, wt0_1t0_3, gi10, i10, c11, c12, c13, c14, hv15, c17, c18, cl20, cv20, ce20, cl21, cv21, ce21, c23, c24, hv25, cl27, cv27, ce27, cl28, cv28, ce28, Try.results31]
theorem m_lend_Call_ev (a0 : List TPerm) (a1 : List Int) (a2 : List TRat) (a3 : List Int) (a4 : List TContract) (r0 : (List Int) × (List TDiag)) (h : m_lend_Call a0 a1 a2 a3 a4 = some r0) (d : Nat) (G : Heap) : Tel Try.prog TB d 17 [.p (.sl (a0.map cTPerm)), .p (.sl (a1.map ciu32)), .p (.sl (a2.map cTRat)), .p (.sl (a3.map cii64)), .p (.sl (a4.map cTContract))] G (.tup [cloA (r0.1.map ciu32) 1, .p (.sl (r0.2.map cTDiag))]) (G) := by
  unfold m_lend_Call at h
  refine Tel.intro mix Try.func17 rfl (Nat.le_of_ble_eq_true rfl) {openAt := fun t => t == 66, drwAt := fun t => t == 66, arrAt := fun t => t == 40, boxAt := fun t => if t = 14 then some 14 else if t = 35 then some 25 else if t = 42 then some 25 else if t = 1000040 then some 40 else none, clean := fun r => if r = 3 then [14] else if r = 9 then [17] else []} (by kernel_rfl) (by kernel_rfl) ?_
  generalize hQ : callPost _ _ _ _ _ = Q
  obtain ⟨r1, hr1, h⟩ := bs h
  simp -implicitDefEqProofs only [go_sem]
  refine call_cloA (sz := 1) (m_slices_Clone_uint32_ca a1 r1 hr1 (d + 1) empty) (by simp -implicitDefEqProofs only [go_sem]) rfl (by simp -implicitDefEqProofs only [go_sem]) (by simp -implicitDefEqProofs only [go_sem]) ?_
  simp -implicitDefEqProofs only [go_sem]
  obtain ⟨z6, hL6, h⟩ := bs h
  obtain ⟨I6, hI6⟩ : ∃ I : (Int × (List TLend_left)) → St → Prop, I = fun a s => match a with | (v7, v8) => s.G = fillKey (fillKey (fillKey (cut d G) (d + 1) 22 (arO ((r1 : List Int).map ciu32))) (d + 1) 25 [.box [.p (.sl (a0.map cTPerm)), arV ((v8 : List TLend_left).map cTLend_left) (d + 1, 40, 0) 6, .p (.sl (a1.map ciu32)), arV ((r1 : List Int).map ciu32) (d + 1, 22, 0) 1, .p (.sl (a2.map cTRat))]]) (d + 1) 40 (arO ((v8 : List TLend_left).map cTLend_left)) ∧ s.F 3 = .p (.sl (a3.map cii64)) ∧ s.F 4 = .p (.sl (a4.map cTContract)) ∧ s.F 12 = .bp (d + 1, 25, 0) 0 ∧ s.F 26 = .p (.sl (a0.map cTPerm)) ∧ s.F 27 = .p (.int .i64 (a0.length : Int)) ∧ s.F 28 = .p (.int .i64 v7) ∧ True := ⟨_, rfl⟩
  obtain ⟨R6, hR6⟩ : ∃ R : ((List TLend_left)) → GE → St → Prop, R = fun v9 e s => e = .exit 0 ∧ s.G = fillKey (fillKey (fillKey (cut d G) (d + 1) 22 (arO ((r1 : List Int).map ciu32))) (d + 1) 25 [.box [.p (.sl (a0.map cTPerm)), arV ((v9 : List TLend_left).map cTLend_left) (d + 1, 40, 0) 6, .p (.sl (a1.map ciu32)), arV ((r1 : List Int).map ciu32) (d + 1, 22, 0) 1, .p (.sl (a2.map cTRat))]]) (d + 1) 40 (arO ((v9 : List TLend_left).map cTLend_left)) ∧ s.F 3 = .p (.sl (a3.map cii64)) ∧ s.F 4 = .p (.sl (a4.map cTContract)) ∧ s.F 12 = .bp (d + 1, 25, 0) 0 ∧ True := ⟨_, rfl⟩
  refine lp (ts := [14]) rfl hL6 I6 R6 ?_ ?_ ?_
  · rw [hI6]
    simp -implicitDefEqProofs only [go_sem]
  · clear h hL6
    rintro ⟨v7, v8⟩ y s h i
    rw [hI6] at i
    obtain ⟨gi6, i6⟩ := i
    replace h : m_lend_Call_L0 a0 (v7, v8) = some y := h
    unfold m_lend_Call_L0 at h
    rcases ib h with ⟨c10, h⟩ | ⟨c10, h⟩
    · obtain ⟨v11, hv11, h⟩ := bs h
      replace hv11 := gis hv11
      obtain ⟨_, c12, h⟩ := bs h
      replace c12 := rqs c12
      simp -implicitDefEqProofs only [go_sem, gi6, i6, c10, hv11, c12]
      refine append_A (l := (v8 : List TLend_left)) (m := ([(⟨v11, true⟩ : TLend_left)] : List TLend_left)) (c := cTLend_left) (he := el84) (hx := by simp -implicitDefEqProofs only [go_sem, gi6, i6, c10, hv11, c12]) (hc := fun _ => rfl) (hm := by simp) (ha := rfl) (hra := rfl) (hb := by simpa using c12) (hbb := by decide) (hG := by simp -implicitDefEqProofs only [go_sem, gi6, i6, c10, hv11, c12]) (hn := fun _ => ⟨rfl, rfl⟩) ?_
      have c13 : ((v8 ++ ([(⟨v11, true⟩ : TLend_left)])) : List TLend_left) ≠ [] := by simp
      cases h
      simp -implicitDefEqProofs only [go_sem, gi6, i6, c10, hv11, c12, c13]
      rw [hI6]
      simp -implicitDefEqProofs only [go_sem, gi6, i6, c10, hv11, c12, c13]
    · cases h
      simp -implicitDefEqProofs only [go_sem, gi6, i6, c10]
      rw [hR6]
      first | refine ⟨rfl, ?_⟩ | refine ⟨(), rfl, ?_⟩
      simp -implicitDefEqProofs only [go_sem, gi6, i6, c10]
  · clear hL6 hI6
    intro e s hr6
    rw [hR6] at hr6
    clear hR6
    revert h hr6
    generalize z6 = v9
    intro h hr6
    try dsimp only at h hr6
    obtain ⟨rfl, gi14, i14⟩ := hr6
    obtain ⟨v15, hv15, h⟩ := bs h
    replace hv15 := subLs hv15
    simp -implicitDefEqProofs only [go_sem, gi14, i14, hv15]
    obtain ⟨z32, hL32, h⟩ := bs h
    obtain ⟨I32, hI32⟩ : ∃ I : ((List TDiag) × Int × (List Int) × (List TPerm) × (List Int) × (List TRat) × (List TLend_left)) → St → Prop, I = fun a s => match a with | (v33, v35, v36, v37, v38, v39, v40) => ∃ o34, s.G = fillKey (fillKey (fillKey (fillKey (cut d G) (d + 1) 22 (arO ((v36 : List Int).map ciu32))) (d + 1) 25 [.box [.p (.sl (v37.map cTPerm)), arV ((v40 : List TLend_left).map cTLend_left) (d + 1, 40, 0) 6, .p (.sl (v38.map ciu32)), arV ((v36 : List Int).map ciu32) (d + 1, 22, 0) 1, .p (.sl (v39.map cTRat))]]) (d + 1) 40 (arO ((v40 : List TLend_left).map cTLend_left))) (d + 1) 76 (growO o34 76 3 (v33.map cTDiag)) ∧ growOK o34 [76] ∧ s.F 3 = .p (.sl (a3.map cii64)) ∧ s.F 12 = .bp (d + 1, 25, 0) 0 ∧ s.F 15 = growV o34 (d + 1) (v33.map cTDiag) ∧ s.F 50 = .p (.sl (v15.map cTContract)) ∧ s.F 51 = .p (.int .i64 (v15.length : Int)) ∧ s.F 52 = .p (.int .i64 v35) ∧ True := ⟨_, rfl⟩
    obtain ⟨R32, hR32⟩ : ∃ R : ((List TDiag) × (List Int) × (List TPerm) × (List Int) × (List TRat) × (List TLend_left)) → GE → St → Prop, R = fun x e s => match x with | (v41, v43, v44, v45, v46, v47) => e = .exit 2 ∧ (∃ o42, s.G = fillKey (fillKey (fillKey (fillKey (cut d G) (d + 1) 22 (arO ((v43 : List Int).map ciu32))) (d + 1) 25 [.box [.p (.sl (v44.map cTPerm)), arV ((v47 : List TLend_left).map cTLend_left) (d + 1, 40, 0) 6, .p (.sl (v45.map ciu32)), arV ((v43 : List Int).map ciu32) (d + 1, 22, 0) 1, .p (.sl (v46.map cTRat))]]) (d + 1) 40 (arO ((v47 : List TLend_left).map cTLend_left))) (d + 1) 76 (growO o42 76 3 (v41.map cTDiag)) ∧ growOK o42 [76] ∧ s.F 12 = .bp (d + 1, 25, 0) 0 ∧ s.F 15 = growV o42 (d + 1) (v41.map cTDiag) ∧ True) := ⟨_, rfl⟩
    refine lp (ts := [17]) rfl hL32 I32 R32 ?_ ?_ ?_
    · rw [hI32]
      refine ⟨none, ?_⟩
      simp -implicitDefEqProofs only [go_sem, gi14, i14, hv15]
    · clear h hL32
      rintro ⟨v33, v35, v36, v37, v38, v39, v40⟩ y s h i
      rw [hI32] at i
      obtain ⟨o34, gi32, ko34, i32⟩ := i
      replace h : m_lend_Call_L1 v15 a3 (v33, v35, v36, v37, v38, v39, v40) = some y := h
      unfold m_lend_Call_L1 at h
      rcases ib h with ⟨c48, h⟩ | ⟨c48, h⟩
      · obtain ⟨v49, hv49, h⟩ := bs h
        replace hv49 := gis hv49
        rcases ib h with ⟨c50, h⟩ | ⟨c50, h⟩
        · cases h
          simp -implicitDefEqProofs only [go_sem, gi14, i14, hv15, gi32, ko34, i32, c48, hv49, c50]
          rw [hI32]
          refine ⟨o34, ?_⟩
          simp -implicitDefEqProofs only [go_sem, gi14, i14, hv15, gi32, ko34, i32, c48, hv49, c50, poison_grow (d := d + 1) (ts := [17]) ko34 (by decide)]
        · obtain ⟨v51, hv51, h⟩ := bs h
          replace hv51 := gis hv51
          obtain ⟨r52, hr52, h⟩ := bs h
          simp -implicitDefEqProofs only [go_sem, gi14, i14, hv15, gi32, ko34, i32, c48, hv49, c50, hv51]
          have cl53 : (r52.2.f1).length = ((v40 : List TLend_left)).length := by have := len_lent1 hr52; (try simp only [List.length_set] at this); first | exact this | exact this.trans rfl
          have cv53 := arV_len (c := cTLend_left) (κ := (d + 1, 40, 0)) (n := 6) cl53
          have ce53 := nil_len cl53
          have cl54 : (r52.2.f3).length = ((v36 : List Int)).length := by have := len_lent3 hr52; (try simp only [List.length_set] at this); first | exact this | exact this.trans rfl
          have cv54 := arV_len (c := ciu32) (κ := (d + 1, 22, 0)) (n := 1) cl54
          have ce54 := nil_len cl54
          refine call_drwL (t0 := 999) (r := .p (.int .i64 r52.1)) [(d + 1, 25, [.box [.p (.sl (r52.2.f0.map cTPerm)), arV ((r52.2.f1 : List TLend_left).map cTLend_left) (d + 1, 40, 0) 6, .p (.sl (r52.2.f2.map ciu32)), arV ((r52.2.f3 : List Int).map ciu32) (d + 1, 22, 0) 1, .p (.sl (r52.2.f4.map cTRat))]]), (d + 1, 40, arO ((r52.2.f1 : List TLend_left).map cTLend_left)), (d + 1, 22, arO ((r52.2.f3 : List Int).map ciu32))] (fun H => m_lend_caller_lent_ev (⟨v37, v40, v38, v36, v39⟩ : TLend_caller) v51 v49 r52 hr52 (d + 1) _ (d + 1) 25 40 22 (Nat.le_refl _) (by simp -implicitDefEqProofs only [go_sem, gi14, i14, hv15, gi32, ko34, i32, c48, hv49, c50, hv51]) (by simp -implicitDefEqProofs only [go_sem, gi14, i14, hv15, gi32, ko34, i32, c48, hv49, c50, hv51]) (by simp -implicitDefEqProofs only [go_sem, gi14, i14, hv15, gi32, ko34, i32, c48, hv49, c50, hv51]) (by simp) (by simp) (by simp) (by simp) (by simp) (by simp)) (by simp -implicitDefEqProofs only [go_sem, gi14, i14, hv15, gi32, ko34, i32, c48, hv49, c50, hv51, cl53, cv53, ce53, cl54, cv54, ce54]) rfl (by simp -implicitDefEqProofs only [go_sem, gi14, i14, hv15, gi32, ko34, i32, c48, hv49, c50, hv51, cl53, cv53, ce53, cl54, cv54, ce54]) (by simp -implicitDefEqProofs only [go_sem, gi14, i14, hv15, gi32, ko34, i32, c48, hv49, c50, hv51, cl53, cv53, ce53, cl54, cv54, ce54]) (by simp -implicitDefEqProofs only [go_sem]) (by simp -implicitDefEqProofs only [go_sem, gi14, i14, hv15, gi32, ko34, i32, c48, hv49, c50, hv51, cl53, cv53, ce53, cl54, cv54, ce54]) (by simp -implicitDefEqProofs only [go_sem, gi14, i14, hv15, gi32, ko34, i32, c48, hv49, c50, hv51, cl53, cv53, ce53, cl54, cv54, ce54]) (by simp -implicitDefEqProofs only [go_sem]) (by simp -implicitDefEqProofs only [go_sem]) ?_
          simp -implicitDefEqProofs only [go_sem, gi14, i14, hv15, gi32, ko34, i32, c48, hv49, c50, hv51, cl53, cv53, ce53, cl54, cv54, ce54]
          obtain ⟨v55, hz, h⟩ := bs h
          obtain ⟨R57, hR57⟩ : ∃ R : St → Prop, R = fun s => ∃ o56, s.G = fillKey (fillKey (fillKey (fillKey (fillKey (cut d G) (d + 1) 17 [.box [.p (.str v49.f0), .p (.bool v49.f1), .p (.str v49.f2), .p (.int .i64 v49.f3), .p (.int .i64 v49.f4.f0), .p (.int .i64 v49.f4.f1), .p (.int .u32 v49.f5), .p (.int .u32 v49.f6), .p (.int .u32 v49.f7)]]) (d + 1) 22 (arO ((r52.2.f3 : List Int).map ciu32))) (d + 1) 25 [.box [.p (.sl (r52.2.f0.map cTPerm)), arV ((r52.2.f1 : List TLend_left).map cTLend_left) (d + 1, 40, 0) 6, .p (.sl (r52.2.f2.map ciu32)), arV ((r52.2.f3 : List Int).map ciu32) (d + 1, 22, 0) 1, .p (.sl (r52.2.f4.map cTRat))]]) (d + 1) 40 (arO ((r52.2.f1 : List TLend_left).map cTLend_left))) (d + 1) 76 (growO o56 76 3 (v55.map cTDiag)) ∧ growOK o56 [76] ∧ s.F 3 = .p (.sl (a3.map cii64)) ∧ s.F 12 = .bp (d + 1, 25, 0) 0 ∧ s.F 15 = growV o56 (d + 1) (v55.map cTDiag) ∧ s.F 50 = .p (.sl (v15.map cTContract)) ∧ s.F 51 = .p (.int .i64 (v15.length : Int)) ∧ s.F 52 = .p (.int .i64 v35) ∧ True := ⟨_, rfl⟩
          refine cutG R57 ?_ ?_
          · replace h := hz
            rcases ib h with ⟨c58, h⟩ | ⟨c58, h⟩
            · obtain ⟨_, c59, h⟩ := bs h
              replace c59 := rqs c59
              simp -implicitDefEqProofs only [go_sem, gi14, i14, hv15, gi32, ko34, i32, c48, hv49, c50, hv51, cl53, cv53, ce53, cl54, cv54, ce54, c58, c59]
              refine append_G (o := o34) (ts := [76]) (es := (v33 : List TDiag).map cTDiag) (xs := ([(⟨r52.1, v35, v49.f0⟩ : TDiag)] : List TDiag).map cTDiag) (ho := growOK.sub ko34 (by decide)) (hG := by simp -implicitDefEqProofs only [go_sem, gi14, i14, hv15, gi32, ko34, i32, c48, hv49, c50, hv51, cl53, cv53, ce53, cl54, cv54, ce54, c58, c59]) (hj := by simp -implicitDefEqProofs only [go_sem]) (he := el48) (hx := by simp -implicitDefEqProofs only [go_sem, gi14, i14, hv15, gi32, ko34, i32, c48, hv49, c50, hv51, cl53, cv53, ce53, cl54, cv54, ce54, c58, c59]) (h1 := by simp -implicitDefEqProofs only [go_sem]) (h2 := by simp -implicitDefEqProofs only [go_sem]) (ha := rfl) (hra := rfl) (hb := by simpa using c59) (hbb := by decide) ?_
              intro o60 ko60
              cases h
              simp -implicitDefEqProofs only [go_sem, gi14, i14, hv15, gi32, ko34, i32, c48, hv49, c50, hv51, cl53, cv53, ce53, cl54, cv54, ce54, c58, c59, ko60]
              rw [hR57]
              refine ⟨o60, ?_⟩
              simp -implicitDefEqProofs only [go_sem, gi14, i14, hv15, gi32, ko34, i32, c48, hv49, c50, hv51, cl53, cv53, ce53, cl54, cv54, ce54, c58, c59, ko60]
            · cases h
              simp -implicitDefEqProofs only [go_sem, gi14, i14, hv15, gi32, ko34, i32, c48, hv49, c50, hv51, cl53, cv53, ce53, cl54, cv54, ce54, c58]
              rw [hR57]
              refine ⟨o34, ?_⟩
              simp -implicitDefEqProofs only [go_sem, gi14, i14, hv15, gi32, ko34, i32, c48, hv49, c50, hv51, cl53, cv53, ce53, cl54, cv54, ce54, c58]
          · replace h := h; clear hz
            rintro s i
            rw [hR57] at i
            obtain ⟨o56, gi61, ko56, i61⟩ := i
            clear hR57
            try dsimp only at h
            cases h
            simp -implicitDefEqProofs only [go_sem, gi14, i14, hv15, gi32, ko34, i32, c48, hv49, c50, hv51, cl53, cv53, ce53, cl54, cv54, ce54, gi61, ko56, i61]
            rw [hI32]
            refine ⟨o56, ?_⟩
            simp -implicitDefEqProofs only [go_sem, gi14, i14, hv15, gi32, ko34, i32, c48, hv49, c50, hv51, cl53, cv53, ce53, cl54, cv54, ce54, gi61, ko56, i61, poison_grow (d := d + 1) (ts := [17]) ko56 (by decide)]
      · cases h
        simp -implicitDefEqProofs only [go_sem, gi14, i14, hv15, gi32, ko34, i32, c48]
        rw [hR32]
        first | refine ⟨rfl, o34, ?_⟩ | refine ⟨(), rfl, o34, ?_⟩
        simp -implicitDefEqProofs only [go_sem, gi14, i14, hv15, gi32, ko34, i32, c48]
    · clear hL32 hI32
      intro e s hr32
      rw [hR32] at hr32
      clear hR32
      rcases z32 with ⟨v41, v43, v44, v45, v46, v47⟩
      try dsimp only at h hr32
      obtain ⟨rfl, o42, gi62, ko42, i62⟩ := hr32
      cases h
      subst hQ
      simp -implicitDefEqProofs only [go_sem, gi14, i14, hv15, gi62, ko42, i62, Try.results17]
theorem m_law18_awake_ev  (r0 : Bool) (h : m_law18_awake  = some r0) (d : Nat) (G : Heap) : Tel Try.prog TB d 16 [] G (.p (.bool r0)) (G) := by
  unfold m_law18_awake at h
  refine Tel.intro mix Try.func16 rfl (Nat.le_of_ble_eq_true rfl) {frzAt := fun t => t == 7 || t == 14} (by kernel_rfl) (by kernel_rfl) ?_
  generalize hQ : callPost _ _ _ _ _ = Q
  obtain ⟨r1, hr1, h⟩ := bs h
  simp -implicitDefEqProofs only [go_sem]
  refine call_frz (r' := .agg [.p (.int .i64 r1.f0), .p (.int .i64 r1.f1.f0), .p (.int .i64 r1.f1.f1), .p (.int .i64 r1.f2), .p (.int .u32 r1.f3)]) (args := []) (caps := []) (m_ref15_Own_ev  r1 hr1 (d + 1) empty) (wkRs_refl []) rfl (by simp -implicitDefEqProofs only [go_sem]) (by simp -implicitDefEqProofs only [go_sem]) ?_ rfl rfl
  obtain ⟨r2, hr2, h⟩ := bs h
  simp -implicitDefEqProofs only [go_sem]
  refine call_frz (r' := .tup [.p (.sl (r2.1.map ciu32)), .p (.sl (r2.2.map cTDiag))]) (m_lend_Call_ev ([r1]) ([1]) ([]) ([0, 0]) ([(⟨(⟨#[120]⟩ : ByteArray), true, ByteArray.empty, 0, (⟨0, 1⟩ : TRat), 1, 2, 0⟩ : TContract), (⟨(⟨#[120]⟩ : ByteArray), true, ByteArray.empty, 0, (⟨0, 1⟩ : TRat), 1, 2, 0⟩ : TContract)]) r2 hr2 (d + 1) empty) (by simp -implicitDefEqProofs only [go_sem]) rfl (by simp -implicitDefEqProofs only [go_sem]) (by simp -implicitDefEqProofs only [go_sem]) ?_ rfl rfl
  rcases ib h with ⟨c3, h⟩ | ⟨c3, h⟩
  · obtain ⟨v4, hv4, h⟩ := bs h
    replace hv4 := gis hv4
    rcases ib h with ⟨c5, h⟩ | ⟨c5, h⟩
    · rcases ib h with ⟨c6, h⟩ | ⟨c6, h⟩
      · obtain ⟨v7, hv7, h⟩ := bs h
        replace hv7 := gis hv7
        simp -implicitDefEqProofs only [go_sem, c3, hv4, c5, c6, hv7]
        refine eqS_TDiag v7 (⟨13, 1, (⟨#[120]⟩ : ByteArray)⟩ : TDiag) ?_
        cases h
        subst hQ
        simp -implicitDefEqProofs only [go_sem, c3, hv4, c5, c6, hv7, Try.results16]
      · cases h
        subst hQ
        simp -implicitDefEqProofs only [go_sem, c3, hv4, c5, c6, Try.results16]
    · cases h
      subst hQ
      simp -implicitDefEqProofs only [go_sem, c3, hv4, c5, Try.results16]
  · cases h
    subst hQ
    simp -implicitDefEqProofs only [go_sem, c3, Try.results16]
theorem m_law18_Case_right_ev (a0 : TBallcocklaw18_Case) (r0 : Bool) (h : m_law18_Case_right a0 = some r0) (d : Nat) (G : Heap) : Tel Try.prog TB d 19 [.agg ((cTBallcocklaw18_Case a0).map .p)] G (.p (.bool r0)) (G) := by
  unfold m_law18_Case_right at h
  refine Tel.intro mix Try.func19 rfl (Nat.le_of_ble_eq_true rfl) {frzAt := fun t => t == 1} (by kernel_rfl) (by kernel_rfl) ?_
  generalize hQ : callPost _ _ _ _ _ = Q
  rcases ib h with ⟨c1, h⟩ | ⟨c1, h⟩
  · rcases ib h with ⟨c2, h⟩ | ⟨c2, h⟩
    · cases h
      subst hQ
      simp -implicitDefEqProofs only [go_sem, c1, c2, Try.results19]
    · cases h
      subst hQ
      simp -implicitDefEqProofs only [go_sem, c1, c2, Try.results19]
  · cases h
    subst hQ
    simp -implicitDefEqProofs only [go_sem, c1, Try.results19]
theorem m_law18_sets_ev (a0 : List Int) (a1 : List Int) (r0 : Bool) (h : m_law18_sets a0 a1 = some r0) (d : Nat) (G : Heap) : Tel Try.prog TB d 20 [.p (.sl (a0.map ciu32)), .p (.sl (a1.map ciu32))] G (.p (.bool r0)) (G) := by
  unfold m_law18_sets at h
  refine Tel.intro mix Try.func20 rfl (Nat.le_of_ble_eq_true rfl) {} (by kernel_rfl) (by kernel_rfl) ?_
  generalize hQ : callPost _ _ _ _ _ = Q
  rcases ib h with ⟨c1, h⟩ | ⟨c1, h⟩
  · cases h
    subst hQ
    simp -implicitDefEqProofs only [go_sem, c1, Try.results20]
  · simp -implicitDefEqProofs only [go_sem, c1]
    obtain ⟨z4, hL4, h⟩ := bs h
    obtain ⟨I4, hI4⟩ : ∃ I : Int → St → Prop, I = fun v5 s => s.G = cut d G ∧ s.F 0 = .p (.sl (a0.map ciu32)) ∧ s.F 1 = .p (.sl (a1.map ciu32)) ∧ s.F 5 = .p (.int .i64 v5) ∧ True := ⟨_, rfl⟩
    obtain ⟨R4, hR4⟩ : ∃ R : ((Unit) ⊕ (Bool)) → GE → St → Prop, R = fun x e s => match x with | .inl _ => e = .exit 0 ∧ s.G = cut d G ∧ True | .inr r => e = .ret ∧ (r = r0 → Q .ret s) := ⟨_, rfl⟩
    refine lp (ts := []) rfl hL4 I4 R4 ?_ ?_ ?_
    · rw [hI4]
      simp -implicitDefEqProofs only [go_sem, c1]
    · clear h hL4
      rintro v5 y s h i
      rw [hI4] at i
      obtain ⟨gi4, i4⟩ := i
      replace h : m_law18_sets_L0 a0 a1 (v5) = some y := h
      unfold m_law18_sets_L0 at h
      rcases ib h with ⟨c6, h⟩ | ⟨c6, h⟩
      · obtain ⟨v7, hv7, h⟩ := bs h
        replace hv7 := gis hv7
        obtain ⟨v8, hv8, h⟩ := bs h
        replace hv8 := gis hv8
        rcases ib h with ⟨c9, h⟩ | ⟨c9, h⟩
        · cases h
          simp -implicitDefEqProofs only [go_sem, c1, gi4, i4, c6, hv7, hv8, c9]
          rw [hR4]
          refine ⟨rfl, ?_⟩
          intro hr
          subst hr
          subst hQ
          simp -implicitDefEqProofs only [go_sem, c1, gi4, i4, c6, hv7, hv8, c9, Try.results20]
        · cases h
          simp -implicitDefEqProofs only [go_sem, c1, gi4, i4, c6, hv7, hv8, c9]
          rw [hI4]
          simp -implicitDefEqProofs only [go_sem, c1, gi4, i4, c6, hv7, hv8, c9]
      · cases h
        simp -implicitDefEqProofs only [go_sem, c1, gi4, i4, c6]
        rw [hR4]
        first | refine ⟨rfl, ?_⟩ | refine ⟨(), rfl, ?_⟩
        simp -implicitDefEqProofs only [go_sem, c1, gi4, i4, c6]
    · clear hL4 hI4
      intro e s hr4
      rw [hR4] at hr4
      clear hR4
      rcases z4 with _ | r
      · try dsimp only at h hr4
        obtain ⟨rfl, gi10, i10⟩ := hr4
        cases h
        subst hQ
        simp -implicitDefEqProofs only [go_sem, c1, gi10, i10, Try.results20]
      · try dsimp only at h hr4
        obtain ⟨rfl, hr4⟩ := hr4
        cases h
        try simp -implicitDefEqProofs only [go_sem]
        exact hr4 rfl
theorem m_law18_LendOne_ev (a0 : Int) (a1 : List TContract) (r0 : Bool) (h : m_law18_LendOne a0 a1 = some r0) (d : Nat) (G : Heap) : Tel Try.prog TB d 7 [.p (.int .u32 a0), .p (.sl (a1.map cTContract))] G (.p (.bool r0)) (G) := by
  unfold m_law18_LendOne at h
  refine Tel.intro mix Try.func7 rfl (Nat.le_of_ble_eq_true rfl) {frzAt := fun t => t == 14 || t == 21 || t == 32 || t == 38} (by kernel_rfl) (by kernel_rfl) ?_
  generalize hQ : callPost _ _ _ _ _ = Q
  obtain ⟨r1, hr1, h⟩ := bs h
  simp -implicitDefEqProofs only [go_sem]
  refine call_frz (r' := .p (.bool r1)) (args := []) (caps := []) (m_law18_awake_ev  r1 hr1 (d + 1) empty) (wkRs_refl []) rfl (by simp -implicitDefEqProofs only [go_sem]) (by simp -implicitDefEqProofs only [go_sem]) ?_ rfl rfl
  simp -implicitDefEqProofs only [go_sem]
  obtain ⟨v2, hz, h⟩ := bs h
  obtain ⟨R3, hR3⟩ : ∃ R : St → Prop, R = fun s => s.G = cut d G ∧ s.F 0 = .p (.int .u32 a0) ∧ s.F 1 = .p (.sl (a1.map cTContract)) ∧ s.F 20 = .p (.bool v2) ∧ True := ⟨_, rfl⟩
  refine cutR R3 ?_ ?_
  · replace h := hz
    rcases ib h with ⟨c4, h⟩ | ⟨c4, h⟩
    · cases h
      simp -implicitDefEqProofs only [go_sem, c4]
      rw [hR3]
      simp -implicitDefEqProofs only [go_sem, c4]
    · cases h
      simp -implicitDefEqProofs only [go_sem, c4]
      rw [hR3]
      simp -implicitDefEqProofs only [go_sem, c4]
  · replace h := h; clear hz
    rintro s i
    rw [hR3] at i
    obtain ⟨gi5, i5⟩ := i
    clear hR3
    try dsimp only at h
    rcases ib h with ⟨c6, h⟩ | ⟨c6, h⟩
    · obtain ⟨r7, hr7, h⟩ := bs h
      simp -implicitDefEqProofs only [go_sem, gi5, i5, c6]
      try refine gCall_eta gi5 ?_
      refine call_frz (r' := .p (.bool r7)) (args := []) (caps := []) (m_law18_awake_ev  r7 hr7 (d + 1) empty) (wkRs_refl []) rfl (by simp -implicitDefEqProofs only [go_sem]) (by simp -implicitDefEqProofs only [go_sem]) ?_ rfl rfl
      cases h
      subst hQ
      simp -implicitDefEqProofs only [go_sem, gi5, i5, c6, Try.results7]
    · simp -implicitDefEqProofs only [go_sem, gi5, i5, c6]
      obtain ⟨z14, hL14, h⟩ := bs h
      obtain ⟨I14, hI14⟩ : ∃ I : ((List Int) × Int) → St → Prop, I = fun a s => match a with | (v15, v17) => ∃ o16, s.G = fillKey (cut d G) (d + 1) 30 (growO o16 30 1 (v15.map cii64)) ∧ growOK o16 [30] ∧ s.F 0 = .p (.int .u32 a0) ∧ s.F 1 = .p (.sl (a1.map cTContract)) ∧ s.F 5 = growV o16 (d + 1) (v15.map cii64) ∧ s.F 6 = .p (.int .i64 v17) ∧ True := ⟨_, rfl⟩
      obtain ⟨R14, hR14⟩ : ∃ R : ((List Int)) → GE → St → Prop, R = fun v18 e s => e = .exit 0 ∧ (∃ o19, s.G = fillKey (cut d G) (d + 1) 30 (growO o19 30 1 (v18.map cii64)) ∧ growOK o19 [30] ∧ s.F 0 = .p (.int .u32 a0) ∧ s.F 1 = .p (.sl (a1.map cTContract)) ∧ s.F 5 = growV o19 (d + 1) (v18.map cii64) ∧ True) := ⟨_, rfl⟩
      refine lp (ts := []) rfl hL14 I14 R14 ?_ ?_ ?_
      · rw [hI14]
        refine ⟨none, ?_⟩
        simp -implicitDefEqProofs only [go_sem, gi5, i5, c6]
      · clear h hL14
        rintro ⟨v15, v17⟩ y s h i
        rw [hI14] at i
        obtain ⟨o16, gi14, ko16, i14⟩ := i
        replace h : m_law18_LendOne_L0 a1 (v15, v17) = some y := h
        unfold m_law18_LendOne_L0 at h
        rcases ib h with ⟨c20, h⟩ | ⟨c20, h⟩
        · obtain ⟨_, c21, h⟩ := bs h
          replace c21 := rqs c21
          simp -implicitDefEqProofs only [go_sem, gi5, i5, c6, gi14, ko16, i14, c20, c21]
          refine append_G (o := o16) (ts := [30]) (es := (v15 : List Int).map cii64) (xs := ([0] : List Int).map cii64) (ho := growOK.sub ko16 (by decide)) (hG := by simp -implicitDefEqProofs only [go_sem, gi5, i5, c6, gi14, ko16, i14, c20, c21]) (hj := by simp -implicitDefEqProofs only [go_sem]) (he := el46) (hx := by simp -implicitDefEqProofs only [go_sem, gi5, i5, c6, gi14, ko16, i14, c20, c21]) (h1 := by simp -implicitDefEqProofs only [go_sem]) (h2 := by simp -implicitDefEqProofs only [go_sem]) (ha := rfl) (hra := rfl) (hb := by simpa using c21) (hbb := by decide) ?_
          intro o22 ko22
          cases h
          simp -implicitDefEqProofs only [go_sem, gi5, i5, c6, gi14, ko16, i14, c20, c21, ko22]
          rw [hI14]
          refine ⟨o22, ?_⟩
          simp -implicitDefEqProofs only [go_sem, gi5, i5, c6, gi14, ko16, i14, c20, c21, ko22]
        · cases h
          simp -implicitDefEqProofs only [go_sem, gi5, i5, c6, gi14, ko16, i14, c20]
          rw [hR14]
          first | refine ⟨rfl, o16, ?_⟩ | refine ⟨(), rfl, o16, ?_⟩
          simp -implicitDefEqProofs only [go_sem, gi5, i5, c6, gi14, ko16, i14, c20]
      · clear hL14 hI14
        intro e s hr14
        rw [hR14] at hr14
        clear hR14
        revert h hr14
        generalize z14 = v18
        intro h hr14
        try dsimp only at h hr14
        obtain ⟨rfl, o19, gi23, ko19, i23⟩ := hr14
        obtain ⟨r24, hr24, h⟩ := bs h
        simp -implicitDefEqProofs only [go_sem, gi5, i5, c6, gi23, ko19, i23]
        try refine gCall_eta gi23 ?_
        refine call_frz (r' := .agg [.p (.int .i64 r24.f0), .p (.int .i64 r24.f1.f0), .p (.int .i64 r24.f1.f1), .p (.int .i64 r24.f2), .p (.int .u32 r24.f3)]) (args := []) (caps := []) (m_ref15_Own_ev  r24 hr24 (d + 1) empty) (wkRs_refl []) rfl (by simp -implicitDefEqProofs only [go_sem]) (by simp -implicitDefEqProofs only [go_sem]) ?_ rfl rfl
        obtain ⟨r25, hr25, h⟩ := bs h
        simp -implicitDefEqProofs only [go_sem, gi5, i5, c6, gi23, ko19, i23]
        refine call_frz (r' := .tup [.p (.sl (r25.1.map ciu32)), .p (.sl (r25.2.map cTDiag))]) (m_lend_Call_ev ([r24]) ([a0]) ([]) v18 a1 r25 hr25 (d + 1) empty) (by simp -implicitDefEqProofs only [go_sem, gi5, i5, c6, gi23, ko19, i23]) rfl (by simp -implicitDefEqProofs only [go_sem]) (by simp -implicitDefEqProofs only [go_sem]) ?_ rfl rfl
        simp -implicitDefEqProofs only [go_sem, gi5, i5, c6, gi23, ko19, i23]
        obtain ⟨z32, hL32, h⟩ := bs h
        obtain ⟨I32, hI32⟩ : ∃ I : (Int × Int × (List Int)) → St → Prop, I = fun a s => match a with | (v33, v34, v35) => s.G = fillKey (fillKey (cut d G) (d + 1) 9 [.box (v35.map (gI .i64))]) (d + 1) 30 (growO o19 30 1 (v18.map cii64)) ∧ s.F 1 = .p (.sl (a1.map cTContract)) ∧ s.F 8 = .p (.sl (r25.2.map cTDiag)) ∧ s.F 9 = .bp (d + 1, 9, 0) 0 ∧ s.F 10 = .p (.int .i64 v33) ∧ s.F 11 = .p (.int .i64 v34) ∧ True := ⟨_, rfl⟩
        obtain ⟨R32, hR32⟩ : ∃ R : ((Int × (List Int)) ⊕ (Bool)) → GE → St → Prop, R = fun x e s => match x with | .inl (v36, v37) => e = .exit 2 ∧ s.G = fillKey (fillKey (cut d G) (d + 1) 9 [.box (v37.map (gI .i64))]) (d + 1) 30 (growO o19 30 1 (v18.map cii64)) ∧ s.F 9 = .bp (d + 1, 9, 0) 0 ∧ s.F 10 = .p (.int .i64 v36) ∧ True | .inr r => e = .ret ∧ (r = r0 → Q .ret s) := ⟨_, rfl⟩
        refine lp (ts := []) rfl hL32 I32 R32 ?_ ?_ ?_
        · rw [hI32]
          simp -implicitDefEqProofs only [go_sem, gi5, i5, c6, gi23, ko19, i23]
        · clear h hL32
          rintro ⟨v33, v34, v35⟩ y s h i
          rw [hI32] at i
          obtain ⟨gi32, i32⟩ := i
          replace h : m_law18_LendOne_L1 a1 r25 (v33, v34, v35) = some y := h
          unfold m_law18_LendOne_L1 at h
          rcases ib h with ⟨c38, h⟩ | ⟨c38, h⟩
          · simp -implicitDefEqProofs only [go_sem, gi5, i5, c6, gi23, ko19, i23, gi32, i32, c38]
            obtain ⟨z43, hL43, h⟩ := bs h
            obtain ⟨I43, hI43⟩ : ∃ I : (Bool × Int) → St → Prop, I = fun a s => match a with | (v44, v45) => s.G = fillKey (fillKey (cut d G) (d + 1) 9 [.box (v35.map (gI .i64))]) (d + 1) 30 (growO o19 30 1 (v18.map cii64)) ∧ s.F 1 = .p (.sl (a1.map cTContract)) ∧ s.F 8 = .p (.sl (r25.2.map cTDiag)) ∧ s.F 9 = .bp (d + 1, 9, 0) 0 ∧ s.F 10 = .p (.int .i64 v33) ∧ s.F 11 = .p (.int .i64 v34) ∧ s.F 12 = .p (.bool v44) ∧ s.F 13 = .p (.int .i64 v45) ∧ True := ⟨_, rfl⟩
            obtain ⟨R43, hR43⟩ : ∃ R : (Bool) → GE → St → Prop, R = fun v46 e s => e = .exit 4 ∧ s.G = fillKey (fillKey (cut d G) (d + 1) 9 [.box (v35.map (gI .i64))]) (d + 1) 30 (growO o19 30 1 (v18.map cii64)) ∧ s.F 1 = .p (.sl (a1.map cTContract)) ∧ s.F 8 = .p (.sl (r25.2.map cTDiag)) ∧ s.F 9 = .bp (d + 1, 9, 0) 0 ∧ s.F 10 = .p (.int .i64 v33) ∧ s.F 11 = .p (.int .i64 v34) ∧ s.F 12 = .p (.bool v46) ∧ True := ⟨_, rfl⟩
            refine lp (ts := []) rfl hL43 I43 R43 ?_ ?_ ?_
            · rw [hI43]
              simp -implicitDefEqProofs only [go_sem, gi5, i5, c6, gi23, ko19, i23, gi32, i32, c38]
            · clear h hL43
              rintro ⟨v44, v45⟩ y s h i
              rw [hI43] at i
              obtain ⟨gi43, i43⟩ := i
              replace h : m_law18_LendOne_L2 r25 v34 (v44, v45) = some y := h
              unfold m_law18_LendOne_L2 at h
              rcases ib h with ⟨c47, h⟩ | ⟨c47, h⟩
              · simp -implicitDefEqProofs only [go_sem, gi5, i5, c6, gi23, ko19, i23, gi32, i32, c38, gi43, i43, c47]
                obtain ⟨v48, hz, h⟩ := bs h
                obtain ⟨R49, hR49⟩ : ∃ R : St → Prop, R = fun s => s.G = fillKey (fillKey (cut d G) (d + 1) 9 [.box (v35.map (gI .i64))]) (d + 1) 30 (growO o19 30 1 (v18.map cii64)) ∧ s.F 1 = .p (.sl (a1.map cTContract)) ∧ s.F 8 = .p (.sl (r25.2.map cTDiag)) ∧ s.F 9 = .bp (d + 1, 9, 0) 0 ∧ s.F 10 = .p (.int .i64 v33) ∧ s.F 11 = .p (.int .i64 v34) ∧ s.F 12 = .p (.bool v48) ∧ s.F 13 = .p (.int .i64 v45) ∧ True := ⟨_, rfl⟩
                refine cutR R49 ?_ ?_
                · replace h := hz
                  rcases ib h with ⟨c50, h⟩ | ⟨c50, h⟩
                  · cases h
                    simp -implicitDefEqProofs only [go_sem, gi5, i5, c6, gi23, ko19, i23, gi32, i32, c38, gi43, i43, c47, c50]
                    rw [hR49]
                    simp -implicitDefEqProofs only [go_sem, gi5, i5, c6, gi23, ko19, i23, gi32, i32, c38, gi43, i43, c47, c50]
                  · obtain ⟨v51, hv51, h⟩ := bs h
                    replace hv51 := gis hv51
                    rcases ib h with ⟨c52, h⟩ | ⟨c52, h⟩
                    · cases h
                      simp -implicitDefEqProofs only [go_sem, gi5, i5, c6, gi23, ko19, i23, gi32, i32, c38, gi43, i43, c47, c50, hv51, c52]
                      rw [hR49]
                      simp -implicitDefEqProofs only [go_sem, gi5, i5, c6, gi23, ko19, i23, gi32, i32, c38, gi43, i43, c47, c50, hv51, c52]
                    · cases h
                      simp -implicitDefEqProofs only [go_sem, gi5, i5, c6, gi23, ko19, i23, gi32, i32, c38, gi43, i43, c47, c50, hv51, c52]
                      rw [hR49]
                      simp -implicitDefEqProofs only [go_sem, gi5, i5, c6, gi23, ko19, i23, gi32, i32, c38, gi43, i43, c47, c50, hv51, c52]
                · replace h := h; clear hz
                  rintro s i
                  rw [hR49] at i
                  obtain ⟨gi53, i53⟩ := i
                  clear hR49
                  try dsimp only at h
                  cases h
                  simp -implicitDefEqProofs only [go_sem, gi5, i5, c6, gi23, ko19, i23, gi32, i32, c38, gi43, i43, c47, gi53, i53]
                  rw [hI43]
                  simp -implicitDefEqProofs only [go_sem, gi5, i5, c6, gi23, ko19, i23, gi32, i32, c38, gi43, i43, c47, gi53, i53]
              · cases h
                simp -implicitDefEqProofs only [go_sem, gi5, i5, c6, gi23, ko19, i23, gi32, i32, c38, gi43, i43, c47]
                rw [hR43]
                first | refine ⟨rfl, ?_⟩ | refine ⟨(), rfl, ?_⟩
                simp -implicitDefEqProofs only [go_sem, gi5, i5, c6, gi23, ko19, i23, gi32, i32, c38, gi43, i43, c47]
            · clear hL43 hI43
              intro e s hr43
              rw [hR43] at hr43
              clear hR43
              revert h hr43
              generalize z43 = v46
              intro h hr43
              try dsimp only at h hr43
              obtain ⟨rfl, gi54, i54⟩ := hr43
              obtain ⟨v55, hv55, h⟩ := bs h
              replace hv55 := gis hv55
              simp -implicitDefEqProofs only [go_sem, gi5, i5, c6, gi23, ko19, i23, gi32, i32, c38, gi54, i54, hv55]
              obtain ⟨v56, hz, h⟩ := bs h
              obtain ⟨R57, hR57⟩ : ∃ R : St → Prop, R = fun s => s.G = fillKey (fillKey (cut d G) (d + 1) 9 [.box (v35.map (gI .i64))]) (d + 1) 30 (growO o19 30 1 (v18.map cii64)) ∧ s.F 1 = .p (.sl (a1.map cTContract)) ∧ s.F 8 = .p (.sl (r25.2.map cTDiag)) ∧ s.F 9 = .bp (d + 1, 9, 0) 0 ∧ s.F 10 = .p (.int .i64 v33) ∧ s.F 11 = .p (.int .i64 v34) ∧ s.F 79 = .p (.bool v56) ∧ True := ⟨_, rfl⟩
              refine cutR R57 ?_ ?_
              · replace h := hz
                rcases ib h with ⟨c58, h⟩ | ⟨c58, h⟩
                · cases h
                  simp -implicitDefEqProofs only [go_sem, gi5, i5, c6, gi23, ko19, i23, gi32, i32, c38, gi54, i54, hv55, c58]
                  rw [hR57]
                  simp -implicitDefEqProofs only [go_sem, gi5, i5, c6, gi23, ko19, i23, gi32, i32, c38, gi54, i54, hv55, c58]
                · cases h
                  simp -implicitDefEqProofs only [go_sem, gi5, i5, c6, gi23, ko19, i23, gi32, i32, c38, gi54, i54, hv55, c58]
                  rw [hR57]
                  simp -implicitDefEqProofs only [go_sem, gi5, i5, c6, gi23, ko19, i23, gi32, i32, c38, gi54, i54, hv55, c58]
              · replace h := h; clear hz
                rintro s i
                rw [hR57] at i
                obtain ⟨gi59, i59⟩ := i
                clear hR57
                try dsimp only at h
                rcases ib h with ⟨c60, h⟩ | ⟨c60, h⟩
                · cases h
                  simp -implicitDefEqProofs only [go_sem, gi5, i5, c6, gi23, ko19, i23, gi32, i32, c38, gi54, i54, hv55, gi59, i59, c60]
                  rw [hI32]
                  simp -implicitDefEqProofs only [go_sem, gi5, i5, c6, gi23, ko19, i23, gi32, i32, c38, gi54, i54, hv55, gi59, i59, c60]
                · simp -implicitDefEqProofs only [go_sem, gi5, i5, c6, gi23, ko19, i23, gi32, i32, c38, gi54, i54, hv55, gi59, i59, c60]
                  obtain ⟨v61, hz, h⟩ := bs h
                  obtain ⟨R62, hR62⟩ : ∃ R : St → Prop, R = fun s => s.G = fillKey (fillKey (cut d G) (d + 1) 9 [.box (v35.map (gI .i64))]) (d + 1) 30 (growO o19 30 1 (v18.map cii64)) ∧ s.F 1 = .p (.sl (a1.map cTContract)) ∧ s.F 8 = .p (.sl (r25.2.map cTDiag)) ∧ s.F 9 = .bp (d + 1, 9, 0) 0 ∧ s.F 10 = .p (.int .i64 v33) ∧ s.F 11 = .p (.int .i64 v34) ∧ s.F 93 = .p (.bool v61) ∧ True := ⟨_, rfl⟩
                  refine cutR R62 ?_ ?_
                  · replace h := hz
                    rcases ib h with ⟨c63, h⟩ | ⟨c63, h⟩
                    · cases h
                      simp -implicitDefEqProofs only [go_sem, gi5, i5, c6, gi23, ko19, i23, gi32, i32, c38, gi54, i54, hv55, gi59, i59, c60, c63]
                      rw [hR62]
                      simp -implicitDefEqProofs only [go_sem, gi5, i5, c6, gi23, ko19, i23, gi32, i32, c38, gi54, i54, hv55, gi59, i59, c60, c63]
                    · cases h
                      simp -implicitDefEqProofs only [go_sem, gi5, i5, c6, gi23, ko19, i23, gi32, i32, c38, gi54, i54, hv55, gi59, i59, c60, c63]
                      rw [hR62]
                      simp -implicitDefEqProofs only [go_sem, gi5, i5, c6, gi23, ko19, i23, gi32, i32, c38, gi54, i54, hv55, gi59, i59, c60, c63]
                  · replace h := h; clear hz
                    rintro s i
                    rw [hR62] at i
                    obtain ⟨gi64, i64⟩ := i
                    clear hR62
                    try dsimp only at h
                    rcases ib h with ⟨c65, h⟩ | ⟨c65, h⟩
                    · cases h
                      simp -implicitDefEqProofs only [go_sem, gi5, i5, c6, gi23, ko19, i23, gi32, i32, c38, gi54, i54, hv55, gi59, i59, c60, gi64, i64, c65]
                      rw [hR32]
                      refine ⟨rfl, ?_⟩
                      intro hr
                      subst hr
                      subst hQ
                      simp -implicitDefEqProofs only [go_sem, gi5, i5, c6, gi23, ko19, i23, gi32, i32, c38, gi54, i54, hv55, gi59, i59, c60, gi64, i64, c65, Try.results7]
                    · obtain ⟨_, c66, h⟩ := bs h
                      replace c66 := rqs c66
                      obtain ⟨_, c67, h⟩ := bs h
                      replace c67 := rqs c67
                      obtain ⟨v68, hv68, h⟩ := bs h
                      replace hv68 := gis hv68
                      obtain ⟨_, c69, h⟩ := bs h
                      replace c69 := rqs c69
                      have c70 := lt_toNat c66 c69
                      cases h
                      simp -implicitDefEqProofs only [go_sem, gi5, i5, c6, gi23, ko19, i23, gi32, i32, c38, gi54, i54, hv55, gi59, i59, c60, gi64, i64, c65, c66, c67, hv68, c69, c70]
                      rw [hI32]
                      simp -implicitDefEqProofs only [go_sem, gi5, i5, c6, gi23, ko19, i23, gi32, i32, c38, gi54, i54, hv55, gi59, i59, c60, gi64, i64, c65, c66, c67, hv68, c69, c70]
          · cases h
            simp -implicitDefEqProofs only [go_sem, gi5, i5, c6, gi23, ko19, i23, gi32, i32, c38]
            rw [hR32]
            first | refine ⟨rfl, ?_⟩ | refine ⟨(), rfl, ?_⟩
            simp -implicitDefEqProofs only [go_sem, gi5, i5, c6, gi23, ko19, i23, gi32, i32, c38]
        · clear hL32 hI32
          intro e s hr32
          rw [hR32] at hr32
          clear hR32
          rcases z32 with ⟨v36, v37⟩ | r
          · try dsimp only at h hr32
            obtain ⟨rfl, gi71, i71⟩ := hr32
            obtain ⟨_, c72, h⟩ := bs h
            replace c72 := rqs c72
            obtain ⟨_, c73, h⟩ := bs h
            replace c73 := rqs c73
            obtain ⟨v74, hv74, h⟩ := bs h
            replace hv74 := gis hv74
            simp -implicitDefEqProofs only [go_sem, gi5, i5, c6, gi23, ko19, i23, gi71, i71, c72, c73, hv74]
            obtain ⟨v75, hz, h⟩ := bs h
            obtain ⟨R76, hR76⟩ : ∃ R : St → Prop, R = fun s => s.G = fillKey (fillKey (cut d G) (d + 1) 9 [.box (v37.map (gI .i64))]) (d + 1) 30 (growO o19 30 1 (v18.map cii64)) ∧ s.F 9 = .bp (d + 1, 9, 0) 0 ∧ s.F 116 = .p (.bool v75) ∧ True := ⟨_, rfl⟩
            refine cutR R76 ?_ ?_
            · replace h := hz
              rcases ib h with ⟨c77, h⟩ | ⟨c77, h⟩
              · rcases ib h with ⟨c78, h⟩ | ⟨c78, h⟩
                · cases h
                  simp -implicitDefEqProofs only [go_sem, gi5, i5, c6, gi23, ko19, i23, gi71, i71, c72, c73, hv74, c77, c78]
                  rw [hR76]
                  simp -implicitDefEqProofs only [go_sem, gi5, i5, c6, gi23, ko19, i23, gi71, i71, c72, c73, hv74, c77, c78]
                · obtain ⟨_, c79, h⟩ := bs h
                  replace c79 := rqs c79
                  obtain ⟨_, c80, h⟩ := bs h
                  replace c80 := rqs c80
                  obtain ⟨v81, hv81, h⟩ := bs h
                  replace hv81 := gis hv81
                  cases h
                  simp -implicitDefEqProofs only [go_sem, gi5, i5, c6, gi23, ko19, i23, gi71, i71, c72, c73, hv74, c77, c78, c79, c80, hv81]
                  rw [hR76]
                  simp -implicitDefEqProofs only [go_sem, gi5, i5, c6, gi23, ko19, i23, gi71, i71, c72, c73, hv74, c77, c78, c79, c80, hv81]
              · obtain ⟨_, c82, h⟩ := bs h
                replace c82 := rqs c82
                obtain ⟨_, c83, h⟩ := bs h
                replace c83 := rqs c83
                obtain ⟨v84, hv84, h⟩ := bs h
                replace hv84 := gis hv84
                cases h
                simp -implicitDefEqProofs only [go_sem, gi5, i5, c6, gi23, ko19, i23, gi71, i71, c72, c73, hv74, c77, c82, c83, hv84]
                rw [hR76]
                simp -implicitDefEqProofs only [go_sem, gi5, i5, c6, gi23, ko19, i23, gi71, i71, c72, c73, hv74, c77, c82, c83, hv84]
            · replace h := h; clear hz
              rintro s i
              rw [hR76] at i
              obtain ⟨gi85, i85⟩ := i
              clear hR76
              try dsimp only at h
              rcases ib h with ⟨c86, h⟩ | ⟨c86, h⟩
              · cases h
                subst hQ
                simp -implicitDefEqProofs only [go_sem, gi5, i5, c6, gi23, ko19, i23, gi71, i71, c72, c73, hv74, gi85, i85, c86, Try.results7]
              · obtain ⟨_, c87, h⟩ := bs h
                replace c87 := rqs c87
                obtain ⟨_, c88, h⟩ := bs h
                replace c88 := rqs c88
                obtain ⟨v89, hv89, h⟩ := bs h
                replace hv89 := gis hv89
                rcases ib h with ⟨c90, h⟩ | ⟨c90, h⟩
                · obtain ⟨_, c91, h⟩ := bs h
                  replace c91 := rqs c91
                  obtain ⟨_, c92, h⟩ := bs h
                  replace c92 := rqs c92
                  obtain ⟨v93, hv93, h⟩ := bs h
                  replace hv93 := gis hv93
                  rcases ib h with ⟨c94, h⟩ | ⟨c94, h⟩
                  · cases h
                    subst hQ
                    simp -implicitDefEqProofs only [go_sem, gi5, i5, c6, gi23, ko19, i23, gi71, i71, c72, c73, hv74, gi85, i85, c86, c87, c88, hv89, c90, c91, c92, hv93, c94, Try.results7]
                  · obtain ⟨_, c95, h⟩ := bs h
                    replace c95 := rqs c95
                    obtain ⟨_, c96, h⟩ := bs h
                    replace c96 := rqs c96
                    obtain ⟨v97, hv97, h⟩ := bs h
                    replace hv97 := gis hv97
                    rcases ib h with ⟨c98, h⟩ | ⟨c98, h⟩
                    · rcases ib h with ⟨c99, h⟩ | ⟨c99, h⟩
                      · simp only [c99, beq_tt, tt_beq, beq_ff, ff_beq, Bool.not_true, Bool.not_false, not_not_b, Bool.true_eq_false, Bool.false_eq_true] at c98
                      · cases h
                        subst hQ
                        simp -implicitDefEqProofs only [go_sem, gi5, i5, c6, gi23, ko19, i23, gi71, i71, c72, c73, hv74, gi85, i85, c86, c87, c88, hv89, c90, c91, c92, hv93, c94, c95, c96, hv97, c98, c99, Try.results7]
                    · cases h
                      subst hQ
                      simp -implicitDefEqProofs only [go_sem, gi5, i5, c6, gi23, ko19, i23, gi71, i71, c72, c73, hv74, gi85, i85, c86, c87, c88, hv89, c90, c91, c92, hv93, c94, c95, c96, hv97, c98, Try.results7]
                · obtain ⟨_, c100, h⟩ := bs h
                  replace c100 := rqs c100
                  obtain ⟨_, c101, h⟩ := bs h
                  replace c101 := rqs c101
                  obtain ⟨v102, hv102, h⟩ := bs h
                  replace hv102 := gis hv102
                  rcases ib h with ⟨c103, h⟩ | ⟨c103, h⟩
                  · obtain ⟨_, c104, h⟩ := bs h
                    replace c104 := rqs c104
                    obtain ⟨_, c105, h⟩ := bs h
                    replace c105 := rqs c105
                    obtain ⟨v106, hv106, h⟩ := bs h
                    replace hv106 := gis hv106
                    rcases ib h with ⟨c107, h⟩ | ⟨c107, h⟩
                    · rcases ib h with ⟨c108, h⟩ | ⟨c108, h⟩
                      · simp only [c108, beq_tt, tt_beq, beq_ff, ff_beq, Bool.not_true, Bool.not_false, not_not_b, Bool.true_eq_false, Bool.false_eq_true] at c107
                      · cases h
                        subst hQ
                        simp -implicitDefEqProofs only [go_sem, gi5, i5, c6, gi23, ko19, i23, gi71, i71, c72, c73, hv74, gi85, i85, c86, c87, c88, hv89, c90, c100, c101, hv102, c103, c104, c105, hv106, c107, c108, Try.results7]
                    · cases h
                      subst hQ
                      simp -implicitDefEqProofs only [go_sem, gi5, i5, c6, gi23, ko19, i23, gi71, i71, c72, c73, hv74, gi85, i85, c86, c87, c88, hv89, c90, c100, c101, hv102, c103, c104, c105, hv106, c107, Try.results7]
                  · obtain ⟨_, c109, h⟩ := bs h
                    replace c109 := rqs c109
                    obtain ⟨_, c110, h⟩ := bs h
                    replace c110 := rqs c110
                    obtain ⟨v111, hv111, h⟩ := bs h
                    replace hv111 := gis hv111
                    rcases ib h with ⟨c112, h⟩ | ⟨c112, h⟩
                    · obtain ⟨_, c113, h⟩ := bs h
                      replace c113 := rqs c113
                      obtain ⟨_, c114, h⟩ := bs h
                      replace c114 := rqs c114
                      obtain ⟨v115, hv115, h⟩ := bs h
                      replace hv115 := gis hv115
                      cases h
                      subst hQ
                      simp -implicitDefEqProofs only [go_sem, gi5, i5, c6, gi23, ko19, i23, gi71, i71, c72, c73, hv74, gi85, i85, c86, c87, c88, hv89, c90, c100, c101, hv102, c103, c109, c110, hv111, c112, c113, c114, hv115, Try.results7]
                    · cases h
                      subst hQ
                      simp -implicitDefEqProofs only [go_sem, gi5, i5, c6, gi23, ko19, i23, gi71, i71, c72, c73, hv74, gi85, i85, c86, c87, c88, hv89, c90, c100, c101, hv102, c103, c109, c110, hv111, c112, Try.results7]
          · try dsimp only at h hr32
            obtain ⟨rfl, hr32⟩ := hr32
            cases h
            try simp -implicitDefEqProofs only [go_sem]
            exact hr32 rfl
end Go.E
end
section
set_option linter.all false
set_option maxRecDepth 100000
namespace Go.E
open Go Go.Proofs Go.Eng
variable {TB : Nat → Option Obj}
theorem m_law18_LendKeeps_ev (a0 : TBallcocklaw18_Case) (a1 : List Int) (a2 : List TContract) (r0 : Bool) (h : m_law18_LendKeeps a0 a1 a2 = some r0) (d : Nat) (G : Heap) : Tel Try.prog TB d 8 [.agg ((cTBallcocklaw18_Case a0).map .p), .p (.sl (a1.map cii64)), .p (.sl (a2.map cTContract))] G (.p (.bool r0)) (G) := by
  unfold m_law18_LendKeeps at h
  refine Tel.intro mix Try.func8 rfl (Nat.le_of_ble_eq_true rfl) {frzAt := fun t => t == 3 || t == 14 || t == 18 || t == 31 || t == 41 || t == 93 || t == 99} (by kernel_rfl) (by kernel_rfl) ?_
  generalize hQ : callPost _ _ _ _ _ = Q
  obtain ⟨r1, hr1, h⟩ := bs h
  simp -implicitDefEqProofs only [go_sem]
  refine call_frz (r' := .p (.bool r1)) (args := []) (caps := []) (m_law18_awake_ev  r1 hr1 (d + 1) empty) (wkRs_refl []) rfl (by simp -implicitDefEqProofs only [go_sem]) (by simp -implicitDefEqProofs only [go_sem]) ?_ rfl rfl
  simp -implicitDefEqProofs only [go_sem]
  obtain ⟨v2, hz, h⟩ := bs h
  obtain ⟨R3, hR3⟩ : ∃ R : St → Prop, R = fun s => s.G = cut d G ∧ s.F 1 = .p (.sl (a1.map cii64)) ∧ s.F 2 = .p (.sl (a2.map cTContract)) ∧ s.F 3 = .ep (cTBallcocklaw18_Case a0) 0 ∧ s.F 30 = .p (.bool v2) ∧ True := ⟨_, rfl⟩
  refine cutR R3 ?_ ?_
  · replace h := hz
    rcases ib h with ⟨c4, h⟩ | ⟨c4, h⟩
    · cases h
      simp -implicitDefEqProofs only [go_sem, c4]
      rw [hR3]
      simp -implicitDefEqProofs only [go_sem, c4]
    · obtain ⟨r5, hr5, h⟩ := bs h
      simp -implicitDefEqProofs only [go_sem, c4]
      refine call_frz (r' := .p (.bool r5)) (m_law18_Case_right_ev a0 r5 hr5 (d + 1) empty) (by simp -implicitDefEqProofs only [go_sem, c4]) rfl (by simp -implicitDefEqProofs only [go_sem]) (by simp -implicitDefEqProofs only [go_sem]) ?_ rfl rfl
      rcases ib h with ⟨c6, h⟩ | ⟨c6, h⟩
      · cases h
        simp -implicitDefEqProofs only [go_sem, c4, c6]
        rw [hR3]
        simp -implicitDefEqProofs only [go_sem, c4, c6]
      · rcases ib h with ⟨c7, h⟩ | ⟨c7, h⟩
        · cases h
          simp -implicitDefEqProofs only [go_sem, c4, c6, c7]
          rw [hR3]
          simp -implicitDefEqProofs only [go_sem, c4, c6, c7]
        · cases h
          simp -implicitDefEqProofs only [go_sem, c4, c6, c7]
          rw [hR3]
          simp -implicitDefEqProofs only [go_sem, c4, c6, c7]
  · replace h := h; clear hz
    rintro s i
    rw [hR3] at i
    obtain ⟨gi8, i8⟩ := i
    clear hR3
    try dsimp only at h
    rcases ib h with ⟨c9, h⟩ | ⟨c9, h⟩
    · obtain ⟨r10, hr10, h⟩ := bs h
      simp -implicitDefEqProofs only [go_sem, gi8, i8, c9]
      try refine gCall_eta gi8 ?_
      refine call_frz (r' := .p (.bool r10)) (args := []) (caps := []) (m_law18_awake_ev  r10 hr10 (d + 1) empty) (wkRs_refl []) rfl (by simp -implicitDefEqProofs only [go_sem]) (by simp -implicitDefEqProofs only [go_sem]) ?_ rfl rfl
      cases h
      subst hQ
      simp -implicitDefEqProofs only [go_sem, gi8, i8, c9, Try.results8]
    · obtain ⟨r11, hr11, h⟩ := bs h
      simp -implicitDefEqProofs only [go_sem, gi8, i8, c9]
      refine call_frz (r' := .tup [.p (.sl (r11.1.map ciu32)), .p (.sl (r11.2.map cTDiag))]) (m_lend_Call_ev a0.f0 a0.f1 a0.f2 a1 a2 r11 hr11 (d + 1) empty) (by simp -implicitDefEqProofs only [go_sem, gi8, i8, c9]) rfl (by simp -implicitDefEqProofs only [go_sem]) (by simp -implicitDefEqProofs only [go_sem]) ?_ rfl rfl
      rcases ib h with ⟨c12, h⟩ | ⟨c12, h⟩
      · cases h
        subst hQ
        simp -implicitDefEqProofs only [go_sem, gi8, i8, c9, c12, Try.results8]
      · simp -implicitDefEqProofs only [go_sem, gi8, i8, c9, c12]
        obtain ⟨z15, hL15, h⟩ := bs h
        obtain ⟨I15, hI15⟩ : ∃ I : Int → St → Prop, I = fun v16 s => s.G = cut d G ∧ s.F 1 = .p (.sl (a1.map cii64)) ∧ s.F 2 = .p (.sl (a2.map cTContract)) ∧ s.F 3 = .ep (cTBallcocklaw18_Case a0) 0 ∧ s.F 7 = .p (.sl (r11.1.map ciu32)) ∧ s.F 9 = .p (.int .i64 v16) ∧ True := ⟨_, rfl⟩
        obtain ⟨R15, hR15⟩ : ∃ R : ((Unit) ⊕ (Bool)) → GE → St → Prop, R = fun x e s => match x with | .inl _ => e = .exit 0 ∧ s.G = cut d G ∧ s.F 2 = .p (.sl (a2.map cTContract)) ∧ s.F 3 = .ep (cTBallcocklaw18_Case a0) 0 ∧ True | .inr r => e = .ret ∧ (r = r0 → Q .ret s) := ⟨_, rfl⟩
        refine lp (ts := []) rfl hL15 I15 R15 ?_ ?_ ?_
        · rw [hI15]
          simp -implicitDefEqProofs only [go_sem, gi8, i8, c9, c12]
        · clear h hL15
          rintro v16 y s h i
          rw [hI15] at i
          obtain ⟨gi15, i15⟩ := i
          replace h : m_law18_LendKeeps_L0 r11 a1 a0 (v16) = some y := h
          unfold m_law18_LendKeeps_L0 at h
          rcases ib h with ⟨c17, h⟩ | ⟨c17, h⟩
          · simp -implicitDefEqProofs only [go_sem, gi8, i8, c9, c12, gi15, i15, c17]
            obtain ⟨z22, hL22, h⟩ := bs h
            obtain ⟨I22, hI22⟩ : ∃ I : (Bool × Int) → St → Prop, I = fun a s => match a with | (v23, v24) => s.G = cut d G ∧ s.F 1 = .p (.sl (a1.map cii64)) ∧ s.F 2 = .p (.sl (a2.map cTContract)) ∧ s.F 3 = .ep (cTBallcocklaw18_Case a0) 0 ∧ s.F 7 = .p (.sl (r11.1.map ciu32)) ∧ s.F 9 = .p (.int .i64 v16) ∧ s.F 10 = .p (.bool v23) ∧ s.F 11 = .p (.int .i64 v24) ∧ True := ⟨_, rfl⟩
            obtain ⟨R22, hR22⟩ : ∃ R : (Bool) → GE → St → Prop, R = fun v25 e s => e = .exit 2 ∧ s.G = cut d G ∧ s.F 1 = .p (.sl (a1.map cii64)) ∧ s.F 2 = .p (.sl (a2.map cTContract)) ∧ s.F 3 = .ep (cTBallcocklaw18_Case a0) 0 ∧ s.F 7 = .p (.sl (r11.1.map ciu32)) ∧ s.F 9 = .p (.int .i64 v16) ∧ s.F 10 = .p (.bool v25) ∧ True := ⟨_, rfl⟩
            refine lp (ts := []) rfl hL22 I22 R22 ?_ ?_ ?_
            · rw [hI22]
              simp -implicitDefEqProofs only [go_sem, gi8, i8, c9, c12, gi15, i15, c17]
            · clear h hL22
              rintro ⟨v23, v24⟩ y s h i
              rw [hI22] at i
              obtain ⟨gi22, i22⟩ := i
              replace h : m_law18_LendKeeps_L1 a1 v16 (v23, v24) = some y := h
              unfold m_law18_LendKeeps_L1 at h
              rcases ib h with ⟨c26, h⟩ | ⟨c26, h⟩
              · simp -implicitDefEqProofs only [go_sem, gi8, i8, c9, c12, gi15, i15, c17, gi22, i22, c26]
                obtain ⟨v27, hz, h⟩ := bs h
                obtain ⟨R28, hR28⟩ : ∃ R : St → Prop, R = fun s => s.G = cut d G ∧ s.F 1 = .p (.sl (a1.map cii64)) ∧ s.F 2 = .p (.sl (a2.map cTContract)) ∧ s.F 3 = .ep (cTBallcocklaw18_Case a0) 0 ∧ s.F 7 = .p (.sl (r11.1.map ciu32)) ∧ s.F 9 = .p (.int .i64 v16) ∧ s.F 10 = .p (.bool v27) ∧ s.F 11 = .p (.int .i64 v24) ∧ True := ⟨_, rfl⟩
                refine cutR R28 ?_ ?_
                · replace h := hz
                  rcases ib h with ⟨c29, h⟩ | ⟨c29, h⟩
                  · cases h
                    simp -implicitDefEqProofs only [go_sem, gi8, i8, c9, c12, gi15, i15, c17, gi22, i22, c26, c29]
                    rw [hR28]
                    simp -implicitDefEqProofs only [go_sem, gi8, i8, c9, c12, gi15, i15, c17, gi22, i22, c26, c29]
                  · obtain ⟨v30, hv30, h⟩ := bs h
                    replace hv30 := gis hv30
                    cases h
                    simp -implicitDefEqProofs only [go_sem, gi8, i8, c9, c12, gi15, i15, c17, gi22, i22, c26, c29, hv30]
                    rw [hR28]
                    simp -implicitDefEqProofs only [go_sem, gi8, i8, c9, c12, gi15, i15, c17, gi22, i22, c26, c29, hv30]
                · replace h := h; clear hz
                  rintro s i
                  rw [hR28] at i
                  obtain ⟨gi31, i31⟩ := i
                  clear hR28
                  try dsimp only at h
                  cases h
                  simp -implicitDefEqProofs only [go_sem, gi8, i8, c9, c12, gi15, i15, c17, gi22, i22, c26, gi31, i31]
                  rw [hI22]
                  simp -implicitDefEqProofs only [go_sem, gi8, i8, c9, c12, gi15, i15, c17, gi22, i22, c26, gi31, i31]
              · cases h
                simp -implicitDefEqProofs only [go_sem, gi8, i8, c9, c12, gi15, i15, c17, gi22, i22, c26]
                rw [hR22]
                first | refine ⟨rfl, ?_⟩ | refine ⟨(), rfl, ?_⟩
                simp -implicitDefEqProofs only [go_sem, gi8, i8, c9, c12, gi15, i15, c17, gi22, i22, c26]
            · clear hL22 hI22
              intro e s hr22
              rw [hR22] at hr22
              clear hR22
              revert h hr22
              generalize z22 = v25
              intro h hr22
              try dsimp only at h hr22
              obtain ⟨rfl, gi32, i32⟩ := hr22
              simp -implicitDefEqProofs only [go_sem, gi8, i8, c9, c12, gi15, i15, c17, gi32, i32]
              obtain ⟨v33, hz, h⟩ := bs h
              obtain ⟨R34, hR34⟩ : ∃ R : St → Prop, R = fun s => s.G = cut d G ∧ s.F 1 = .p (.sl (a1.map cii64)) ∧ s.F 2 = .p (.sl (a2.map cTContract)) ∧ s.F 3 = .ep (cTBallcocklaw18_Case a0) 0 ∧ s.F 7 = .p (.sl (r11.1.map ciu32)) ∧ s.F 9 = .p (.int .i64 v16) ∧ s.F 84 = .p (.bool v33) ∧ True := ⟨_, rfl⟩
              refine cutR R34 ?_ ?_
              · replace h := hz
                rcases ib h with ⟨c35, h⟩ | ⟨c35, h⟩
                · obtain ⟨v36, hv36, h⟩ := bs h
                  replace hv36 := gis hv36
                  obtain ⟨v37, hv37, h⟩ := bs h
                  replace hv37 := gis hv37
                  cases h
                  simp -implicitDefEqProofs only [go_sem, gi8, i8, c9, c12, gi15, i15, c17, gi32, i32, c35, hv36, hv37]
                  rw [hR34]
                  simp -implicitDefEqProofs only [go_sem, gi8, i8, c9, c12, gi15, i15, c17, gi32, i32, c35, hv36, hv37]
                · cases h
                  simp -implicitDefEqProofs only [go_sem, gi8, i8, c9, c12, gi15, i15, c17, gi32, i32, c35]
                  rw [hR34]
                  simp -implicitDefEqProofs only [go_sem, gi8, i8, c9, c12, gi15, i15, c17, gi32, i32, c35]
              · replace h := h; clear hz
                rintro s i
                rw [hR34] at i
                obtain ⟨gi38, i38⟩ := i
                clear hR34
                try dsimp only at h
                rcases ib h with ⟨c39, h⟩ | ⟨c39, h⟩
                · cases h
                  simp -implicitDefEqProofs only [go_sem, gi8, i8, c9, c12, gi15, i15, c17, gi32, i32, gi38, i38, c39]
                  rw [hR15]
                  refine ⟨rfl, ?_⟩
                  intro hr
                  subst hr
                  subst hQ
                  simp -implicitDefEqProofs only [go_sem, gi8, i8, c9, c12, gi15, i15, c17, gi32, i32, gi38, i38, c39, Try.results8]
                · cases h
                  simp -implicitDefEqProofs only [go_sem, gi8, i8, c9, c12, gi15, i15, c17, gi32, i32, gi38, i38, c39]
                  rw [hI15]
                  simp -implicitDefEqProofs only [go_sem, gi8, i8, c9, c12, gi15, i15, c17, gi32, i32, gi38, i38, c39]
          · cases h
            simp -implicitDefEqProofs only [go_sem, gi8, i8, c9, c12, gi15, i15, c17]
            rw [hR15]
            first | refine ⟨rfl, ?_⟩ | refine ⟨(), rfl, ?_⟩
            simp -implicitDefEqProofs only [go_sem, gi8, i8, c9, c12, gi15, i15, c17]
        · clear hL15 hI15
          intro e s hr15
          rw [hR15] at hr15
          clear hR15
          rcases z15 with _ | r
          · try dsimp only at h hr15
            obtain ⟨rfl, gi40, i40⟩ := hr15
            obtain ⟨r41, hr41, h⟩ := bs h
            simp -implicitDefEqProofs only [go_sem, gi8, i8, c9, c12, gi40, i40]
            refine call_frz (r' := .tup [.p (.sl (r41.1.map ciu32)), .p (.sl (r41.2.map cTDiag))]) (m_lend_Call_ev a0.f0 a0.f1 a0.f2 ([]) a2 r41 hr41 (d + 1) empty) (by simp -implicitDefEqProofs only [go_sem, gi8, i8, c9, c12, gi40, i40]) rfl (by simp -implicitDefEqProofs only [go_sem]) (by simp -implicitDefEqProofs only [go_sem]) ?_ rfl rfl
            obtain ⟨r42, hr42, h⟩ := bs h
            simp -implicitDefEqProofs only [go_sem, gi8, i8, c9, c12, gi40, i40]
            refine call_frz (r' := .p (.bool r42)) (m_law18_sets_ev r41.1 a0.f1 r42 hr42 (d + 1) empty) (by simp -implicitDefEqProofs only [go_sem, gi8, i8, c9, c12, gi40, i40]) rfl (by simp -implicitDefEqProofs only [go_sem]) (by simp -implicitDefEqProofs only [go_sem]) ?_ rfl rfl
            rcases ib h with ⟨c43, h⟩ | ⟨c43, h⟩
            · cases h
              subst hQ
              simp -implicitDefEqProofs only [go_sem, gi8, i8, c9, c12, gi40, i40, c43, Try.results8]
            · cases h
              subst hQ
              simp -implicitDefEqProofs only [go_sem, gi8, i8, c9, c12, gi40, i40, c43, Try.results8]
          · try dsimp only at h hr15
            obtain ⟨rfl, hr15⟩ := hr15
            cases h
            try simp -implicitDefEqProofs only [go_sem]
            exact hr15 rfl
theorem m_law18_LendTo_ev (a0 : Int) (a1 : TContract) (r0 : Bool) (h : m_law18_LendTo a0 a1 = some r0) (d : Nat) (G : Heap) : Tel Try.prog TB d 9 [.p (.int .u32 a0), .agg ((cTContract a1).map .p)] G (.p (.bool r0)) (G) := by
  unfold m_law18_LendTo at h
  refine Tel.intro mix Try.func9 rfl (Nat.le_of_ble_eq_true rfl) {frzAt := fun t => t == 3 || t == 7 || t == 10 || t == 17} (by kernel_rfl) (by kernel_rfl) ?_
  generalize hQ : callPost _ _ _ _ _ = Q
  obtain ⟨r1, hr1, h⟩ := bs h
  simp -implicitDefEqProofs only [go_sem]
  refine call_frz (r' := .p (.bool r1)) (args := []) (caps := []) (m_law18_awake_ev  r1 hr1 (d + 1) empty) (wkRs_refl []) rfl (by simp -implicitDefEqProofs only [go_sem]) (by simp -implicitDefEqProofs only [go_sem]) ?_ rfl rfl
  rcases ib h with ⟨c2, h⟩ | ⟨c2, h⟩
  · cases h
    subst hQ
    simp -implicitDefEqProofs only [go_sem, c2, Try.results9]
  · obtain ⟨r3, hr3, h⟩ := bs h
    simp -implicitDefEqProofs only [go_sem, c2]
    refine call_frz (r' := .agg [.p (.int .i64 r3.f0), .p (.int .i64 r3.f1.f0), .p (.int .i64 r3.f1.f1), .p (.int .i64 r3.f2), .p (.int .u32 r3.f3)]) (args := []) (caps := []) (m_ref15_Own_ev  r3 hr3 (d + 1) empty) (wkRs_refl []) rfl (by simp -implicitDefEqProofs only [go_sem]) (by simp -implicitDefEqProofs only [go_sem]) ?_ rfl rfl
    obtain ⟨r4, hr4, h⟩ := bs h
    simp -implicitDefEqProofs only [go_sem, c2]
    refine call_frz (r' := .tup [.p (.sl (r4.1.map ciu32)), .p (.sl (r4.2.map cTDiag))]) (m_lend_Call_ev ([r3]) ([a0]) ([]) ([0]) ([a1]) r4 hr4 (d + 1) empty) (by simp -implicitDefEqProofs only [go_sem, c2]) rfl (by simp -implicitDefEqProofs only [go_sem]) (by simp -implicitDefEqProofs only [go_sem]) ?_ rfl rfl
    simp -implicitDefEqProofs only [go_sem, c2]
    obtain ⟨v5, hz, h⟩ := bs h
    obtain ⟨R6, hR6⟩ : ∃ R : St → Prop, R = fun s => s.G = cut d G ∧ s.F 0 = .p (.int .u32 a0) ∧ s.F 3 = .ep (cTContract a1) 0 ∧ s.F 5 = .p (.sl (r4.1.map ciu32)) ∧ s.F 27 = .p (.bool v5) ∧ True := ⟨_, rfl⟩
    refine cutR R6 ?_ ?_
    · replace h := hz
      rcases ib h with ⟨c7, h⟩ | ⟨c7, h⟩
      · cases h
        simp -implicitDefEqProofs only [go_sem, c2, c7]
        rw [hR6]
        simp -implicitDefEqProofs only [go_sem, c2, c7]
      · cases h
        simp -implicitDefEqProofs only [go_sem, c2, c7]
        rw [hR6]
        simp -implicitDefEqProofs only [go_sem, c2, c7]
    · replace h := h; clear hz
      rintro s i
      rw [hR6] at i
      obtain ⟨gi8, i8⟩ := i
      clear hR6
      try dsimp only at h
      rcases ib h with ⟨c9, h⟩ | ⟨c9, h⟩
      · cases h
        subst hQ
        simp -implicitDefEqProofs only [go_sem, c2, gi8, i8, c9, Try.results9]
      · rcases ib h with ⟨c10, h⟩ | ⟨c10, h⟩
        · obtain ⟨v11, hv11, h⟩ := bs h
          replace hv11 := gis hv11
          cases h
          subst hQ
          simp -implicitDefEqProofs only [go_sem, c2, gi8, i8, c9, c10, hv11, Try.results9]
        · simp -implicitDefEqProofs only [go_sem, c2, gi8, i8, c9, c10]
          obtain ⟨v12, hz, h⟩ := bs h
          obtain ⟨R13, hR13⟩ : ∃ R : St → Prop, R = fun s => s.G = cut d G ∧ s.F 0 = .p (.int .u32 a0) ∧ s.F 3 = .ep (cTContract a1) 0 ∧ s.F 5 = .p (.sl (r4.1.map ciu32)) ∧ s.F 40 = .p (.bool v12) ∧ True := ⟨_, rfl⟩
          refine cutR R13 ?_ ?_
          · replace h := hz
            rcases ib h with ⟨c14, h⟩ | ⟨c14, h⟩
            · cases h
              simp -implicitDefEqProofs only [go_sem, c2, gi8, i8, c9, c10, c14]
              rw [hR13]
              simp -implicitDefEqProofs only [go_sem, c2, gi8, i8, c9, c10, c14]
            · cases h
              simp -implicitDefEqProofs only [go_sem, c2, gi8, i8, c9, c10, c14]
              rw [hR13]
              simp -implicitDefEqProofs only [go_sem, c2, gi8, i8, c9, c10, c14]
          · replace h := h; clear hz
            rintro s i
            rw [hR13] at i
            obtain ⟨gi15, i15⟩ := i
            clear hR13
            try dsimp only at h
            rcases ib h with ⟨c16, h⟩ | ⟨c16, h⟩
            · obtain ⟨v17, hv17, h⟩ := bs h
              replace hv17 := gis hv17
              cases h
              subst hQ
              simp -implicitDefEqProofs only [go_sem, c2, gi8, i8, c9, c10, gi15, i15, c16, hv17, Try.results9]
            · rcases ib h with ⟨c18, h⟩ | ⟨c18, h⟩
              · obtain ⟨v19, hv19, h⟩ := bs h
                replace hv19 := gis hv19
                cases h
                subst hQ
                simp -implicitDefEqProofs only [go_sem, c2, gi8, i8, c9, c10, gi15, i15, c16, c18, hv19, Try.results9]
              · obtain ⟨v20, hv20, h⟩ := bs h
                replace hv20 := gis hv20
                cases h
                subst hQ
                simp -implicitDefEqProofs only [go_sem, c2, gi8, i8, c9, c10, gi15, i15, c16, c18, hv20, Try.results9]
end Go.E
end
section
set_option linter.all false
set_option maxRecDepth 10000
namespace Go.E
open Go Go.Proofs Go.Eng
def rr (r : TRat) : Bool := decide (BallQ.Right r.f0 r.f1)
def addR (a b : TRat) : TRat × Int := toR (addS a.f0 a.f1 b.f0 b.f1)
def mulR (a b : TRat) : TRat × Int := toR (mulS a.f0 a.f1 b.f0 b.f1)
def divR (a b : TRat) : TRat × Int := toR (divS a.f0 a.f1 b.f0 b.f1)
theorem rR {r : TRat} (h : in64R r) : m_rat_Right r = some (rr r) := by unfold m_rat_Right; rw [rq_true (decide_eq_true h)]; rfl
theorem aR {a b : TRat} (h : in64R a) (h' : in64R b) : m_rat_Add a b = some (addR a b) := by unfold m_rat_Add; rw [rq_true (decide_eq_true ⟨h, h'⟩)]; rfl
theorem mR {a b : TRat} (h : in64R a) (h' : in64R b) : m_rat_Mul a b = some (mulR a b) := by unfold m_rat_Mul; rw [rq_true (decide_eq_true ⟨h, h'⟩)]; rfl
theorem z64 : in64R ⟨0, 0⟩ := by decide
theorem n64 : in64R ⟨0, 1⟩ := by decide
theorem nR : rr ⟨0, 1⟩ = true := by decide +kernel
theorem out_good (x : Rat) : in64R (toR (BallQ.out x)).1 ∧ ((toR (BallQ.out x)).2 = 0 → rr (toR (BallQ.out x)).1 = true) ∧ ((toR (BallQ.out x)).2 = 0 ∨ (toR (BallQ.out x)).2 = 3) := by
  by_cases h : BallQ.fits x
  · rw [out_ok h]
    obtain ⟨h1, h2, h3⟩ := BallQ.right_fits h
    exact ⟨⟨h2, h3⟩, fun _ => decide_eq_true h1, .inl rfl⟩
  · rw [out_over h]
    exact ⟨z64, (fun e => by cases e), .inr rfl⟩
theorem err_good : in64R (toR (0, 0, 2)).1 ∧ ((toR (0, 0, 2)).2 = 0 → rr (toR (0, 0, 2)).1 = true) := ⟨z64, fun e => by cases e⟩
theorem add_good (a b : TRat) : in64R (addR a b).1 ∧ ((addR a b).2 = 0 → rr (addR a b).1 = true) := by
  unfold addR addS
  split
  · exact ⟨(out_good _).1, (out_good _).2.1⟩
  · exact err_good
theorem mul_good (a b : TRat) : in64R (mulR a b).1 ∧ ((mulR a b).2 = 0 → rr (mulR a b).1 = true) := by
  unfold mulR mulS
  split
  · exact ⟨(out_good _).1, (out_good _).2.1⟩
  · exact err_good
theorem div_good (a b : TRat) : in64R (divR a b).1 ∧ ((divR a b).2 = 0 → rr (divR a b).1 = true) := by
  unfold divR divS
  split
  · unfold mulS
    split
    · exact ⟨(out_good _).1, (out_good _).2.1⟩
    · exact err_good
  · exact err_good
theorem dR {a b : TRat} (h : in64R a) (h' : in64R b) : m_rat_Div a b = some (divR a b) := by
  unfold m_rat_Div
  rw [rR h, rR h']
  simp only [some_bind']
  unfold divR divS
  by_cases ha : BallQ.Right a.f0 a.f1
  · have ra : rr a = true := decide_eq_true ha
    by_cases hb : BallQ.Right b.f0 b.f1
    · have rb : rr b = true := decide_eq_true hb
      by_cases hz : b.f0 = 0
      · rw [if_neg (fun x => x.2.2 hz), ra, rb, decide_eq_true hz]; rfl
      · rw [if_pos ⟨ha, hb, hz⟩, ra, rb, decide_eq_false hz]
        obtain ⟨i0, i1, i2, _⟩ := inv_right hb h'.1 h'.2 hz
        obtain ⟨⟨n1, n2⟩, d1, d2⟩ := h'
        obtain ⟨b1, b2, _⟩ := hb
        simp only [Bool.not_true, ifB_false, some_bind']
        by_cases hneg : b.f0 < 0
        · rw [decide_eq_true hneg]
          have e1 : IntKind.wrap .i64 (0 - b.f1) = invN b.f0 b.f1 := by unfold invN; rw [if_pos hneg, wrap_i64 (by omega) (by omega)]; omega
          have e2 : IntKind.wrap .i64 (0 - b.f0) = (b.f0.natAbs : Int) := by rw [wrap_i64 (by omega) (by omega)]; omega
          simp only [ifB_true, some_bind']
          rw [e1, e2, mR h (b := ⟨invN b.f0 b.f1, (b.f0.natAbs : Int)⟩) ⟨i1, i2⟩]
          rfl
        · rw [decide_eq_false hneg]
          have e1 : b.f1 = invN b.f0 b.f1 := by unfold invN; rw [if_neg hneg]
          have e2 : b.f0 = (b.f0.natAbs : Int) := by omega
          simp only [ifB_false, some_bind']
          have := mR h (b := ⟨invN b.f0 b.f1, (b.f0.natAbs : Int)⟩) ⟨i1, i2⟩
          rw [← e1, ← e2] at this
          rw [this]
          simp only [some_bind']
          unfold mulR
          rw [← e1, ← e2]
    · have rb : rr b = false := decide_eq_false hb
      rw [if_neg (fun x => hb x.2.1), ra, rb]; rfl
  · have ra : rr a = false := decide_eq_false ha
    rw [if_neg (fun x => ha x.1), ra]; rfl
structure in64T (t : TTerm) : Prop where
  k : in64R t.f1
  c : ∀ r ∈ t.f0, in64R r
  len : t.f0.length ≤ 1000
def rt (t : TTerm) : Bool := decide (t.f0.length ≤ 8) && rr t.f1 && t.f0.all rr
theorem len8 {n : Nat} : decide ((n : Int) ≤ 8) = decide (n ≤ 8) := decide_eq_decide.2 (by omega)
theorem idxR {l : List TRat} {f : TRat → Option Bool} {g : TRat → Bool} (h : l.length ≤ 1000) (hf : ∀ o ∈ l, f o = some (g o)) : m_slices_ContainsFunc_api_Rat l f = some (l.any g) := by
  unfold m_slices_ContainsFunc_api_Rat m_slices_IndexFunc_api_Rat
  rw [show ((0 : Int)) = ((0 : Nat) : Int) from rfl, loopO_first (b := m_slices_IndexFunc_api_Rat_L0 l f) (fun i : Nat => (i : Int)) l.length (fun i => match l[i]? with | some o => g o | none => false) (fun i => (i : Int)) () ?_ ?_]
  · cases hq : fst l.length (fun i => match l[i]? with | some o => g o | none => false) with
    | none =>
      rw [fst_none] at hq
      have : l.any g = false := by
        rw [List.any_eq_false]
        intro x hx
        obtain ⟨i, hi, rfl⟩ := List.getElem_of_mem hx
        have := hq i hi
        rw [List.getElem?_eq_getElem hi] at this
        simpa using this
      rw [this]; rfl
    | some i =>
      obtain ⟨h1, h2⟩ := fst_some hq
      rw [List.getElem?_eq_getElem h1] at h2
      have : l.any g = true := List.any_eq_true.2 ⟨_, List.getElem_mem h1, h2⟩
      rw [this]
      simp only [some_bind']
      rw [decide_eq_true (show ((0 : Nat) : Int) ≤ (i : Int) by omega)]
  · intro i hi _
    unfold m_slices_IndexFunc_api_Rat_L0
    simp only [lt_cast, decide_eq_true hi, ifB_true, gi_of hi, some_bind', hf _ (List.getElem_mem hi), List.getElem?_eq_getElem hi]
    rw [wrap_succ (by omega)]
    cases g l[i] <;> rfl
  · intro _
    unfold m_slices_IndexFunc_api_Rat_L0
    simp only [lt_cast, Nat.lt_irrefl, decide_false, ifB_false]
theorem any_not {l : List TRat} : (!(l.any fun r => !rr r)) = l.all rr := by
  induction l with
  | nil => rfl
  | cons a l ih => simp only [List.any_cons, List.all_cons, Bool.not_or, Bool.not_not, ih]
theorem tR {t : TTerm} (h : in64T t) : m_term_Right t = some (rt t) := by
  unfold m_term_Right rt
  rw [len8, rR h.k]
  have hl := h.len
  rw [idxR (g := fun r => !rr r) hl fun r hr => by unfold m_term_Right_1; rw [rR (h.c r hr)]; rfl]
  simp only [some_bind', any_not]
  cases decide (t.f0.length ≤ 8) <;> cases rr t.f1 <;> rfl
def atT (t : TTerm) (i : Nat) : TRat := (t.f0[i]?).getD ⟨0, 1⟩
theorem at_in {t : TTerm} (h : in64T t) (i : Nat) : in64R (atT t i) := by
  unfold atT
  cases hq : t.f0[i]? with
  | none => exact n64
  | some r => exact h.c r (List.mem_of_getElem? hq)
theorem at_rr {t : TTerm} (h : rt t = true) (i : Nat) : rr (atT t i) = true := by
  unfold atT
  cases hq : t.f0[i]? with
  | none => exact nR
  | some r =>
    unfold rt at h
    simp only [Bool.and_eq_true] at h
    exact List.all_eq_true.1 h.2 r (List.mem_of_getElem? hq)
theorem atP {t : TTerm} {i : Nat} : m_term_At t (i : Int) = some (atT t i) := by
  unfold m_term_At m_term_nought atT
  rw [decide_eq_false (show ¬ (i : Int) < 0 by omega)]
  by_cases h : i < t.f0.length
  · rw [decide_eq_false (show ¬ (t.f0.length : Int) ≤ (i : Int) by omega), gi_of h, List.getElem?_eq_getElem h]; rfl
  · rw [decide_eq_true (show (t.f0.length : Int) ≤ (i : Int) by omega), List.getElem?_eq_none (by omega)]; rfl
def cutN (l : List TRat) : Nat → Nat
  | 0 => 0
  | n + 1 => match l[n]? with
    | some r => if r.f0 = 0 then cutN l n else n + 1
    | none => cutN l n
theorem cutN_le (l : List TRat) : ∀ n, cutN l n ≤ n
  | 0 => Nat.le_refl _
  | n + 1 => by
    unfold cutN
    have := cutN_le l n
    split
    · split <;> omega
    · omega
theorem cutN_succ {l : List TRat} {n : Nat} (h : n < l.length) : cutN l (n + 1) = if (l[n]).f0 = 0 then cutN l n else n + 1 := by
  show (match l[n]? with | some r => if r.f0 = 0 then cutN l n else n + 1 | none => cutN l n) = _
  rw [List.getElem?_eq_getElem h]
def trimT (t : TTerm) : TTerm := ⟨t.f0.take (cutN t.f0 t.f0.length), t.f1⟩
theorem subL_take {l : List TRat} {n : Nat} (h : n ≤ l.length) : subL l 0 (n : Int) = some (l.take n) := by
  unfold subL
  simp [h]
theorem trimP {t : TTerm} (h : t.f0.length ≤ 1000) : m_term_trim t = some (trimT t) := by
  unfold m_term_trim
  have main : ∀ n, n ≤ t.f0.length → loopO (m_term_trim_L0 t) (n : Int) = some ((cutN t.f0 n : Nat) : Int) := by
    intro n
    induction n with
    | zero =>
      intro _
      refine loopO_inr ?_
      rfl
    | succ n ih =>
      intro hn
      have hlt : n < t.f0.length := by omega
      have e1 : IntKind.wrap .i64 (((n + 1 : Nat) : Int) - 1) = (n : Int) := by rw [wrap_i64 (by omega) (by omega)]; omega
      have hb : m_term_trim_L0 t ((n + 1 : Nat) : Int) = if (t.f0[n]).f0 = 0 then some (.inl (n : Int)) else some (.inr ((n + 1 : Nat) : Int)) := by
        unfold m_term_trim_L0
        dsimp only
        rw [decide_eq_true (show (0 : Int) < ((n + 1 : Nat) : Int) by omega), ifB_true, e1, gi_of hlt]
        simp only [some_bind']
        by_cases hz : (t.f0[n]).f0 = 0
        · rw [if_pos hz, decide_eq_true hz]; rfl
        · rw [if_neg hz, decide_eq_false hz]; rfl
      rw [cutN_succ hlt]
      by_cases hz : (t.f0[n]).f0 = 0
      · rw [if_pos hz]
        rw [if_pos hz] at hb
        rw [loopO_inl hb]
        exact ih (by omega)
      · rw [if_neg hz]
        rw [if_neg hz] at hb
        exact loopO_inr hb
  rw [main _ (Nat.le_refl _)]
  have hc := cutN_le t.f0 t.f0.length
  simp only [some_bind', subL_take hc]
  unfold m_slices_Clone_api_Rat
  rw [rq_true (decide_eq_true (by rw [List.length_take]; omega))]
  rfl
def ownT (t : TTerm) : TTerm := if rt t then trimT t else ⟨[], ⟨0, 1⟩⟩
theorem ownP {t : TTerm} (h : in64T t) : m_term_Own t = some (ownT t) := by
  unfold m_term_Own m_term_nought ownT
  rw [tR h]
  simp only [some_bind']
  cases rt t with
  | false => rfl
  | true =>
    simp only [Bool.not_true, ifB_false, trimP h.len, some_bind']
    rfl
end Go.E
end
section
set_option linter.all false
set_option maxRecDepth 10000
namespace Go.E
open Go Go.Proofs Go.Eng
abbrev zT : TTerm := ⟨[], ⟨0, 0⟩⟩
def lst (f : Nat → TRat × Int) (n : Nat) : List TRat := (List.range n).map fun i => (f i).1
theorem lst_succ {f : Nat → TRat × Int} {n : Nat} : lst f (n + 1) = lst f n ++ [(f n).1] := by
  unfold lst; rw [List.range_succ, List.map_append]; rfl
theorem lst_len {f : Nat → TRat × Int} {n : Nat} : (lst f n).length = n := by unfold lst; simp
def bad (f : Nat → TRat × Int) (i : Nat) : Bool := !decide ((f i).2 = 0)
def eachT (k : TRat × Int) (f : Nat → TRat × Int) (n : Nat) : TTerm × Int := if k.2 = 0 then (match fst n (bad f) with | some i => (zT, (f i).2) | none => (trimT ⟨lst f n, k.1⟩, 0)) else (zT, k.2)
theorem eachP {n : Nat} {g : Int → Option (TRat × Int)} {k : TRat × Int} {f : Nat → TRat × Int} (h : n ≤ 1000) (hk : g (-1) = some k) (hf : ∀ i : Nat, i < n → g (i : Int) = some (f i)) : m_term_each (n : Int) g = some (eachT k f n) := by
  unfold m_term_each
  have en : IntKind.wrap .i64 ((n : Int) + 1) = ((n + 1 : Nat) : Int) := wrap_succ (by omega)
  have first : m_term_each_L0 (n : Int) g (0, [], 0, 0) = if k.2 = 0 then some (.inl (1, [], k.1.f0, k.1.f1)) else some (.inr (.inr (zT, k.2))) := by
    unfold m_term_each_L0
    dsimp only
    rw [en, decide_eq_true (show (0 : Int) < ((n + 1 : Nat) : Int) by omega), ifB_true, show IntKind.wrap .i64 ((0 : Int) - 1) = -1 from rfl, hk]
    simp only [some_bind']
    by_cases hz : k.2 = 0
    · rw [if_pos hz, decide_eq_true hz]; rfl
    · rw [if_neg hz, decide_eq_false hz]; rfl
  unfold eachT
  by_cases hz : k.2 = 0
  · rw [if_pos hz] at first ⊢
    rw [loopO_inl first]
    have key : loopO (m_term_each_L0 (n : Int) g) (1, [], k.1.f0, k.1.f1) = some (match fst n (bad f) with | some i => .inr (zT, (f i).2) | none => .inl (lst f n, k.1.f0, k.1.f1)) := by
      have := loopO_first (b := m_term_each_L0 (n : Int) g) (fun i : Nat => (((i + 1 : Nat) : Int), lst f i, k.1.f0, k.1.f1)) n (bad f) (fun i => (zT, (f i).2)) (lst f n, k.1.f0, k.1.f1) ?_ ?_
      · exact this
      · intro i hi _
        unfold m_term_each_L0
        dsimp only
        have e1 : IntKind.wrap .i64 (((i + 1 : Nat) : Int) - 1) = (i : Int) := by rw [wrap_i64 (by omega) (by omega)]; omega
        rw [en, decide_eq_true (show ((i + 1 : Nat) : Int) < ((n + 1 : Nat) : Int) by omega), ifB_true, e1, hf i hi]
        simp only [some_bind']
        unfold bad
        by_cases hz : (f i).2 = 0
        · rw [decide_eq_true hz, decide_eq_false (show ¬ ((i + 1 : Nat) : Int) = 0 by omega)]
          simp only [Bool.not_true, ifB_false]
          rw [rq_true (decide_eq_true (by rw [lst_len]; simp; omega)), wrap_succ (by omega), ← lst_succ]
          rfl
        · rw [decide_eq_false hz]; rfl
      · intro _
        unfold m_term_each_L0
        dsimp only
        rw [en, decide_eq_false (show ¬ ((n + 1 : Nat) : Int) < ((n + 1 : Nat) : Int) by omega)]
        rfl
    rw [key]
    cases fst n (bad f) with
    | some i => rfl
    | none =>
      simp only [some_bind']
      rw [trimP (t := ⟨lst f n, ⟨k.1.f0, k.1.f1⟩⟩) (by dsimp only; rw [lst_len]; omega)]
      rfl
  · rw [if_neg hz] at first ⊢
    rw [loopO_inr first]
    rfl
def addT (a b : TTerm) : TTerm × Int := if rt a && rt b then eachT (addR a.f1 b.f1) (fun i => addR (atT a i) (atT b i)) (max a.f0.length b.f0.length) else (zT, 2)
def mulT (a : TTerm) (r : TRat) : TTerm × Int := if rt a && rr r then eachT (mulR a.f1 r) (fun i => mulR (atT a i) r) a.f0.length else (zT, 2)
theorem oneP {t : TTerm} {i : Nat} : m_term_one t (i : Int) = some (atT t i) := by
  unfold m_term_one
  rw [decide_eq_false (show ¬ (i : Int) < 0 by omega), atP]; rfl
theorem one1 {t : TTerm} : m_term_one t (-1) = some t.f1 := rfl
theorem addP {a b : TTerm} (ha : in64T a) (hb : in64T b) : m_term_Add a b = some (addT a b) := by
  unfold m_term_Add addT
  rw [tR ha, tR hb]
  simp only [some_bind']
  cases h1 : rt a with
  | false => rfl
  | true =>
    cases h2 : rt b with
    | false => rfl
    | true =>
      simp only [Bool.not_true, ifB_false, some_bind', Bool.and_self, if_true]
      have em : (if (a.f0.length : Int) < (b.f0.length : Int) then (b.f0.length : Int) else (a.f0.length : Int)) = ((max a.f0.length b.f0.length : Nat) : Int) := by split <;> omega
      have la := ha.len
      have lb := hb.len
      rw [em, eachP (k := addR a.f1 b.f1) (f := fun i => addR (atT a i) (atT b i)) (by omega) ?_ ?_]
      · rfl
      · unfold m_term_Add_1
        rw [one1, one1]
        simp only [some_bind', aR ha.k hb.k]
      · intro i _
        unfold m_term_Add_1
        rw [oneP, oneP]
        simp only [some_bind', aR (at_in ha i) (at_in hb i)]
theorem scaleP {a : TTerm} {r : TRat} (ha : in64T a) (hr : in64R r) : m_term_Scale a r = some (mulT a r) := by
  unfold m_term_Scale mulT
  rw [tR ha, rR hr]
  simp only [some_bind']
  cases h1 : rt a with
  | false => rfl
  | true =>
    cases h2 : rr r with
    | false => rfl
    | true =>
      simp only [Bool.not_true, ifB_false, some_bind', Bool.and_self, if_true]
      have la := ha.len
      rw [eachP (k := mulR a.f1 r) (f := fun i => mulR (atT a i) r) (by omega) ?_ ?_]
      · rfl
      · unfold m_term_Scale_1
        rw [one1]
        simp only [some_bind', mR ha.k hr]
      · intro i _
        unfold m_term_Scale_1
        rw [oneP]
        simp only [some_bind', mR (at_in ha i) hr]
theorem lst_in {f : Nat → TRat × Int} {k : TRat} {n : Nat} (h : n ≤ 1000) (hk : in64R k) (hf : ∀ i, in64R (f i).1) : in64T ⟨lst f n, k⟩ :=
  ⟨hk, fun r hr => by unfold lst at hr; obtain ⟨i, _, rfl⟩ := List.mem_map.1 hr; exact hf i, by dsimp only; rw [lst_len]; exact h⟩
theorem lst_rt {f : Nat → TRat × Int} {k : TRat} {n : Nat} (h : n ≤ 8) (hk : rr k = true) (hf : ∀ i, i < n → rr (f i).1 = true) : rt ⟨lst f n, k⟩ = true := by
  unfold rt
  dsimp only
  rw [lst_len, decide_eq_true h, hk]
  simp only [Bool.and_self, Bool.true_and]
  rw [List.all_eq_true]
  intro r hr
  unfold lst at hr
  obtain ⟨i, hi, rfl⟩ := List.mem_map.1 hr
  exact hf i (List.mem_range.1 hi)
theorem rt_len {t : TTerm} (h : rt t = true) : t.f0.length ≤ 8 := by
  unfold rt at h
  simp only [Bool.and_eq_true, decide_eq_true_eq] at h
  exact h.1.1
theorem trim_in {t : TTerm} (h : in64T t) : in64T (trimT t) := by
  refine ⟨h.k, fun r hr => h.c r (List.mem_of_mem_take hr), ?_⟩
  have := h.len
  unfold trimT
  dsimp only
  rw [List.length_take]; omega
theorem trim_rt {t : TTerm} (h : rt t = true) : rt (trimT t) = true := by
  unfold rt at h ⊢
  simp only [Bool.and_eq_true, decide_eq_true_eq, List.all_eq_true] at h ⊢
  refine ⟨⟨?_, h.1.2⟩, fun r hr => h.2 r (List.mem_of_mem_take hr)⟩
  unfold trimT
  dsimp only
  rw [List.length_take]; omega
theorem z_in : in64T zT := ⟨z64, (fun _ h => by cases h), Nat.zero_le _⟩
theorem each_good {k : TRat × Int} {f : Nat → TRat × Int} {n : Nat} (h : n ≤ 8) (hk : in64R k.1 ∧ (k.2 = 0 → rr k.1 = true)) (hf : ∀ i, in64R (f i).1 ∧ ((f i).2 = 0 → rr (f i).1 = true)) :
    in64T (eachT k f n).1 ∧ ((eachT k f n).2 = 0 → rt (eachT k f n).1 = true) := by
  unfold eachT
  by_cases hz : k.2 = 0
  · rw [if_pos hz]
    cases hq : fst n (bad f) with
    | some i =>
      have := (fst_some hq).2
      unfold bad at this
      simp at this
      exact ⟨z_in, fun e => absurd e this⟩
    | none =>
      have hb0 := fst_none.1 hq
      exact ⟨trim_in (lst_in (by omega) hk.1 fun i => (hf i).1), fun _ => trim_rt (lst_rt h (hk.2 hz) fun i hi => (hf i).2 (by have := hb0 i hi; unfold bad at this; simpa using this))⟩
  · rw [if_neg hz]
    exact ⟨z_in, fun e => absurd e hz⟩
theorem addT_good {a b : TTerm} : in64T (addT a b).1 ∧ ((addT a b).2 = 0 → rt (addT a b).1 = true) := by
  unfold addT
  split
  · rename_i h
    simp only [Bool.and_eq_true] at h
    have := rt_len h.1
    have := rt_len h.2
    exact each_good (by omega) (add_good _ _) fun i => add_good _ _
  · exact ⟨z_in, fun e => by cases e⟩
theorem mulT_good {a : TTerm} {r : TRat} : in64T (mulT a r).1 ∧ ((mulT a r).2 = 0 → rt (mulT a r).1 = true) := by
  unfold mulT
  split
  · rename_i h
    simp only [Bool.and_eq_true] at h
    have := rt_len h.1
    exact each_good (by omega) (mul_good _ _) fun i => mul_good _ _
  · exact ⟨z_in, fun e => by cases e⟩
end Go.E
end
section
set_option linter.all false
set_option maxRecDepth 10000
namespace Go.E
open Go Go.Proofs Go.Eng
def mkL {α : Type} (n : Nat) (f : Nat → α) : List α := (List.range n).map f
theorem mk_len {α : Type} {n : Nat} {f : Nat → α} : (mkL n f).length = n := by unfold mkL; simp
theorem mk_at {α : Type} {n i : Nat} {f : Nat → α} (h : i < n) : (mkL n f)[i]? = some (f i) := by unfold mkL; simp [h]
theorem mk_gi {α : Type} {n i : Nat} {f : Nat → α} (h : i < n) : gi (mkL n f) (i : Int) = some (f i) := by rw [gi_nat, mk_at h]
theorem mk_congr {α : Type} {n : Nat} {f g : Nat → α} (h : ∀ i, i < n → f i = g i) : mkL n f = mkL n g := by
  unfold mkL
  exact List.map_congr_left fun i hi => h i (List.mem_range.1 hi)
theorem mk_set {α : Type} {n i : Nat} {f : Nat → α} {x : α} : (mkL n f).set i x = mkL n fun j => if j = i then x else f j := by
  apply List.ext_getElem?
  intro j
  by_cases hj : j < n
  · rw [mk_at hj, List.getElem?_set, mk_at hj, mk_len]
    by_cases h : i = j
    · subst h; simp [hj]
    · have : ¬ j = i := fun e => h e.symm
      simp [h, this]
  · rw [List.getElem?_eq_none (by rw [List.length_set, mk_len]; omega), List.getElem?_eq_none (by rw [mk_len]; omega)]
abbrev Row := TGauss_row
def rowAt (l : List Row) (i : Nat) : Row := (l[i]?).getD ⟨zT, -1⟩
theorem row_of {l : List Row} {i : Nat} (h : i < l.length) : l[i] = rowAt l i := by unfold rowAt; rw [List.getElem?_eq_getElem h]; rfl
theorem row_gi {l : List Row} {i : Nat} (h : i < l.length) : gi l (i : Int) = some (rowAt l i) := by rw [gi_of h, row_of h]
theorem row_mk {n i : Nat} {f : Nat → Row} (h : i < n) : rowAt (mkL n f) i = f i := by unfold rowAt; rw [mk_at h]; rfl
theorem mk_self {l : List Row} : mkL l.length (rowAt l) = l := by
  apply List.ext_getElem?
  intro j
  by_cases hj : j < l.length
  · rw [mk_at hj, List.getElem?_eq_getElem hj, row_of hj]
  · rw [List.getElem?_eq_none (by rw [mk_len]; omega), List.getElem?_eq_none (by omega)]
def goodL (l : List Row) : Prop := ∀ i, in64T (rowAt l i).f0
def neg (c : TRat) : TRat := ⟨IntKind.wrap .i64 (0 - c.f0), c.f1⟩
theorem neg_in {c : TRat} (h : in64R c) : in64R (neg c) := by
  refine ⟨?_, h.2⟩
  unfold neg
  constructor
  · dsimp only; rw [IntKind.wrap_i64]; omega
  · dsimp only; rw [IntKind.wrap_i64]; omega
def lessT (a p : TTerm) (c : TRat) : TTerm × Int := if (mulT p (neg c)).2 = 0 then addT a (mulT p (neg c)).1 else (zT, (mulT p (neg c)).2)
theorem lessT_in {a p : TTerm} {c : TRat} : in64T (lessT a p c).1 := by
  unfold lessT; split
  · exact addT_good.1
  · exact z_in
def skip (rows : List Row) (a v i : Nat) : Bool := decide (i = a) || decide ((atT (rowAt rows i).f0 v).f0 = 0)
def lessAt (rows : List Row) (p : TTerm) (v i : Nat) : TTerm × Int := lessT (rowAt rows i).f0 p (atT (rowAt rows i).f0 v)
def newR (rows : List Row) (p : TTerm) (a v i : Nat) : Row := if i = a then ⟨p, (v : Int)⟩ else if skip rows a v i then rowAt rows i else ⟨(lessAt rows p v i).1, (rowAt rows i).f1⟩
def badR (rows : List Row) (p : TTerm) (a v i : Nat) : Bool := !skip rows a v i && !decide ((lessAt rows p v i).2 = 0)
def invT (rows : List Row) (a v : Nat) : TRat × Int := divR ⟨1, 1⟩ (atT (rowAt rows a).f0 v)
def pivT (rows : List Row) (a v : Nat) : TTerm × Int := mulT (rowAt rows a).f0 (invT rows a v).1
def pivB (rows : List Row) (a v : Nat) : Bool := decide ((invT rows a v).2 = 0) && decide ((pivT rows a v).2 = 0)
def takeP (rows : List Row) (a v : Nat) : Option (List Row) :=
  if pivB rows a v then (match fst rows.length (badR rows (pivT rows a v).1 a v) with | some _ => none | none => some (mkL rows.length (newR rows (pivT rows a v).1 a v))) else none
theorem new_good {rows : List Row} {a v : Nat} (h : goodL rows) {i : Nat} : in64T (newR rows (pivT rows a v).1 a v i).f0 := by
  unfold newR
  split
  · exact mulT_good.1
  · split
    · exact h i
    · exact lessT_in
theorem mkL_good {n : Nat} {f : Nat → Row} (h : ∀ i, in64T (f i).f0) : goodL (mkL n f) := by
  intro i
  by_cases hi : i < n
  · rw [row_mk hi]; exact h i
  · unfold rowAt; rw [List.getElem?_eq_none (by rw [mk_len]; omega)]; exact z_in
theorem take_good {rows r : List Row} {a v : Nat} (h : goodL rows) (e : takeP rows a v = some r) : goodL r ∧ r.length = rows.length := by
  unfold takeP at e
  split at e
  · split at e
    · cases e
    · cases e; exact ⟨mkL_good fun i => new_good h, mk_len⟩
  · cases e
theorem keepP {s : TGauss_system} {t : TTerm} {e : Int} : m_gauss_system_keep s t e = some (t, ⟨s.f0, s.f1 || !decide (e = 0)⟩) := by
  unfold m_gauss_system_keep
  cases s.f1 <;> rfl
theorem timesP {s : TGauss_system} {t : TTerm} {r : TRat} (ht : in64T t) (hr : in64R r) : m_gauss_system_times s t r = some ((mulT t r).1, ⟨s.f0, s.f1 || !decide ((mulT t r).2 = 0)⟩) := by
  unfold m_gauss_system_times
  rw [scaleP ht hr]
  simp only [some_bind', keepP]
theorem over_loop {s : TGauss_system} {a2 a1 : Nat} {r : TTerm × TGauss_system} {l : List Row} (hl : l.length = s.f0.length) (hb : s.f0.length ≤ 1000) : ∀ k i : Nat, i + k = s.f0.length → loopO (m_gauss_system_take_L0 s a2 a1 r) ((i : Int), true, l) = some (true, l) := by
  intro k
  induction k with
  | zero =>
    intro i hi
    refine loopO_inr ?_
    unfold m_gauss_system_take_L0
    dsimp only
    rw [decide_eq_false (by omega)]; rfl
  | succ k ih =>
    intro i hi
    have hb : m_gauss_system_take_L0 s a2 a1 r ((i : Int), true, l) = some (.inl (((i + 1 : Nat) : Int), true, l)) := by
      unfold m_gauss_system_take_L0
      dsimp only
      rw [decide_eq_true (show (i : Int) < (s.f0.length : Int) by omega), ifB_true, rq_true (decide_eq_true (by omega)), rq_true (decide_eq_true (by omega)), row_gi (by omega)]
      simp only [some_bind', atP]
      have : (ifB (decide ((i : Int) = (a1 : Int))) (some true) (ifB (decide ((atT (rowAt l i).f0 a2).f0 = 0)) (some true) (some true)) : Option Bool) = some true := by
        cases decide ((i : Int) = (a1 : Int)) <;> cases decide ((atT (rowAt l i).f0 a2).f0 = 0) <;> rfl
      rw [this]
      simp only [some_bind', ifB_true]
      rw [wrap_succ (by omega)]
    rw [loopO_inl hb]
    exact ih (i + 1) (by omega)
theorem take_loop {rows : List Row} {a v : Nat} (ha : a < rows.length) (hg : goodL rows) (hb : rows.length ≤ 1000) {p : TTerm} (hp : in64T p) {sy : TGauss_system} :
    ∀ k i : Nat, i + k = rows.length → (∃ l', loopO (m_gauss_system_take_L0 ⟨rows, false⟩ (v : Int) (a : Int) (p, sy)) ((i : Int), false, mkL rows.length fun j => if j < i then newR rows p a v j else if j = a then ⟨p, (v : Int)⟩ else rowAt rows j) =
      some (!(List.range' i k).all (fun j => !badR rows p a v j), l') ∧ l'.length = rows.length ∧ ((List.range' i k).all (fun j => !badR rows p a v j) = true → l' = mkL rows.length (newR rows p a v))) := by
  intro k
  induction k with
  | zero =>
    intro i hi
    refine ⟨_, loopO_inr (x := (false, mkL rows.length fun j => if j < i then newR rows p a v j else if j = a then ⟨p, (v : Int)⟩ else rowAt rows j)) ?_, mk_len, fun _ => mk_congr fun j hj => if_pos (by omega)⟩
    unfold m_gauss_system_take_L0
    dsimp only
    rw [decide_eq_false (by omega)]; rfl
  | succ k ih =>
    intro i hi
    obtain ⟨cur, hcur⟩ : ∃ cur, cur = mkL rows.length fun j => if j < i then newR rows p a v j else if j = a then ⟨p, (v : Int)⟩ else rowAt rows j := ⟨_, rfl⟩
    have hil : i < rows.length := by omega
    have hc : gi cur (i : Int) = some (if i = a then ⟨p, (v : Int)⟩ else rowAt rows i) := by rw [hcur, mk_gi hil, if_neg (Nat.lt_irrefl i)]
    have cl : cur.length = rows.length := by rw [hcur, mk_len]
    rw [← hcur, List.range'_succ, List.all_cons]
    have next : ∀ {x : Row}, newR rows p a v i = x → mkL rows.length (fun j => if j < i + 1 then newR rows p a v j else if j = a then ⟨p, (v : Int)⟩ else rowAt rows j) = cur.set i x := by
      intro x hx
      rw [hcur, mk_set]
      refine mk_congr fun j hj => ?_
      by_cases h1 : j = i
      · subst h1; rw [if_pos (by omega), if_pos rfl, hx]
      · rw [if_neg h1]
        by_cases h2 : j < i
        · rw [if_pos (by omega), if_pos h2]
        · rw [if_neg (by omega), if_neg h2]
    have nsk : skip rows a v i = true → cur.set i (newR rows p a v i) = cur := by
      intro h
      rw [hcur, mk_set]
      refine mk_congr fun j hj => ?_
      by_cases h1 : j = i
      · subst h1
        rw [if_pos rfl, if_neg (Nat.lt_irrefl _)]
        unfold newR
        by_cases h2 : j = a
        · rw [if_pos h2, if_pos h2]
        · rw [if_neg h2, if_neg h2, if_pos h]
      · rw [if_neg h1]
    have start : m_gauss_system_take_L0 ⟨rows, false⟩ (v : Int) (a : Int) (p, sy) ((i : Int), false, cur) = (if skip rows a v i then some (.inl (((i + 1 : Nat) : Int), false, cur)) else
        (if (mulT p (neg (atT (rowAt rows i).f0 v))).2 = 0 then some (.inl (((i + 1 : Nat) : Int), !decide ((lessAt rows p v i).2 = 0), cur.set i ⟨(lessAt rows p v i).1, (rowAt rows i).f1⟩)) else some (.inl (((i + 1 : Nat) : Int), true, cur)))) := by
      unfold m_gauss_system_take_L0
      dsimp only
      rw [decide_eq_true (show (i : Int) < (rows.length : Int) by omega), ifB_true, rq_true (decide_eq_true (by omega)), rq_true (decide_eq_true (by omega)), hc]
      simp only [some_bind', atP]
      unfold skip
      by_cases h1 : i = a
      · rw [decide_eq_true (show (i : Int) = (a : Int) by omega), decide_eq_true h1]
        simp only [ifB_true, some_bind', Bool.true_or, if_true]
        rw [wrap_succ (by omega)]
      · rw [decide_eq_false (show ¬ (i : Int) = (a : Int) by omega), decide_eq_false h1, if_neg h1]
        simp only [ifB_false, Bool.false_or]
        by_cases h2 : (atT (rowAt rows i).f0 v).f0 = 0
        · rw [decide_eq_true h2]
          simp only [ifB_true, some_bind', if_true]
          rw [wrap_succ (by omega)]
        · rw [decide_eq_false h2]
          have hn : in64R (⟨IntKind.wrap .i64 (0 - (atT (rowAt rows i).f0 v).f0), (atT (rowAt rows i).f0 v).f1⟩ : TRat) := neg_in (at_in (hg i) v)
          simp only [ifB_false, some_bind', Bool.false_eq_true, if_false, timesP hp hn, Bool.false_or]
          show _ = (if (mulT p (neg (atT (rowAt rows i).f0 v))).2 = 0 then _ else _)
          have e0 : (⟨IntKind.wrap .i64 (0 - (atT (rowAt rows i).f0 v).f0), (atT (rowAt rows i).f0 v).f1⟩ : TRat) = neg (atT (rowAt rows i).f0 v) := rfl
          rw [e0]
          by_cases h3 : (mulT p (neg (atT (rowAt rows i).f0 v))).2 = 0
          · rw [decide_eq_true h3, if_pos h3]
            simp only [Bool.not_true, Bool.not_false, ifB_true, addP (hg i) mulT_good.1, some_bind', keepP, Bool.false_or, hc, if_neg h1]
            rw [wrap_succ (by omega)]
            unfold lessAt lessT
            rw [if_pos h3]
            rfl
          · rw [decide_eq_false h3, if_neg h3]
            simp only [Bool.not_false, Bool.not_true, ifB_false, some_bind']
            rw [wrap_succ (by omega)]
    have bad0 : badR rows p a v i = (!skip rows a v i && !decide ((lessAt rows p v i).2 = 0)) := rfl
    cases hs : skip rows a v i with
    | true =>
      rw [hs, if_pos rfl] at start
      rw [loopO_inl start]
      have e1 := next (x := newR rows p a v i) rfl
      rw [nsk hs] at e1
      rw [hs] at bad0
      rw [bad0, ← e1]
      exact ih (i + 1) (by omega)
    | false =>
      rw [hs, if_neg (by decide)] at start
      rw [hs] at bad0
      by_cases h3 : (mulT p (neg (atT (rowAt rows i).f0 v))).2 = 0
      · rw [if_pos h3] at start
        rw [loopO_inl start]
        by_cases h4 : (lessAt rows p v i).2 = 0
        · rw [decide_eq_true h4] at bad0 ⊢
          have e1 := next (x := ⟨(lessAt rows p v i).1, (rowAt rows i).f1⟩) (by
            unfold newR
            have : ¬ i = a := by intro e; unfold skip at hs; simp [e] at hs
            rw [if_neg this, hs]; rfl)
          rw [bad0, ← e1]
          exact ih (i + 1) (by omega)
        · rw [decide_eq_false h4] at bad0 ⊢
          rw [bad0]
          refine ⟨cur.set i ⟨(lessAt rows p v i).1, (rowAt rows i).f1⟩, over_loop (s := ⟨rows, false⟩) (by rw [List.length_set, cl]) hb k (i + 1) (by dsimp only; omega), by rw [List.length_set, cl], fun h => by simp at h⟩
      · rw [if_neg h3] at start
        rw [loopO_inl start]
        have h4 : ¬ (lessAt rows p v i).2 = 0 := by unfold lessAt lessT; rw [if_neg h3]; exact h3
        rw [decide_eq_false h4] at bad0
        rw [bad0]
        exact ⟨cur, over_loop (s := ⟨rows, false⟩) cl hb k (i + 1) (by dsimp only; omega), cl, fun h => by simp at h⟩
theorem i1 : in64R ⟨1, 1⟩ := by decide
theorem takeE {rows : List Row} {a v : Nat} (ha : a < rows.length) (hg : goodL rows) (hb : rows.length ≤ 1000) :
    ∃ s, m_gauss_system_take ⟨rows, false⟩ (a : Int) (v : Int) = some s ∧ s.f0.length = rows.length ∧ (match takeP rows a v with | some r => s = ⟨r, false⟩ | none => s.f1 = true) := by
  unfold m_gauss_system_take
  dsimp only
  rw [rq_true (decide_eq_true (by omega)), rq_true (decide_eq_true (by omega)), row_gi ha]
  simp only [some_bind', atP, dR i1 (at_in (hg a) v), ifB_false]
  rw [timesP (hg a) (div_good _ _).1]
  simp only [some_bind', row_gi ha]
  have hset : rows.set a ⟨(pivT rows a v).1, (v : Int)⟩ = mkL rows.length fun j => if j < 0 then newR rows (pivT rows a v).1 a v j else if j = a then ⟨(pivT rows a v).1, (v : Int)⟩ else rowAt rows j := by
    have := mk_self (l := rows)
    rw [← this, mk_set, mk_len]
    refine mk_congr fun j hj => ?_
    rw [if_neg (Nat.not_lt_zero j), this]
  show ∃ s, (Option.bind (loopO (m_gauss_system_take_L0 ⟨rows, false⟩ (v : Int) (a : Int) ((pivT rows a v).1, ⟨rows, (!decide ((invT rows a v).2 = 0)) || !decide ((pivT rows a v).2 = 0)⟩)) (((0 : Nat) : Int), ((!decide ((invT rows a v).2 = 0)) || !decide ((pivT rows a v).2 = 0)), rows.set a ⟨(pivT rows a v).1, (v : Int)⟩)) _) = some s ∧ _
  have eb : ((!decide ((invT rows a v).2 = 0)) || !decide ((pivT rows a v).2 = 0)) = !pivB rows a v := by unfold pivB; rw [Bool.not_and]
  rw [eb]
  unfold takeP
  cases hq : pivB rows a v with
  | false =>
    rw [show (!false) = true from rfl, over_loop (s := ⟨rows, false⟩) (by rw [List.length_set]) hb rows.length 0 (by dsimp only; omega)]
    exact ⟨_, rfl, by dsimp only; rw [List.length_set], rfl⟩
  | true =>
    rw [hset]
    obtain ⟨l', h1, h2, h3⟩ := take_loop ha hg hb (p := (pivT rows a v).1) (v := v) (sy := ⟨rows, false⟩) mulT_good.1 rows.length 0 (by omega)
    rw [show (!true) = false from rfl, h1]
    rw [← List.range_eq_range'] at h3 ⊢
    refine ⟨_, rfl, h2, ?_⟩
    rw [if_pos rfl]
    cases hf : fst rows.length (badR rows (pivT rows a v).1 a v) with
    | some i =>
      have := fst_some hf
      show (!_) = true
      rw [Bool.not_eq_true']
      rw [List.all_eq_false]
      exact ⟨i, List.mem_range.2 this.1, by rw [this.2]; decide⟩
    | none =>
      have hall : (List.range rows.length).all (fun j => !badR rows (pivT rows a v).1 a v j) = true := List.all_eq_true.2 fun j hj => by rw [fst_none.1 hf j (List.mem_range.1 hj)]; rfl
      rw [h3 hall, hall]
      rfl
end Go.E
end
section
set_option linter.all false
set_option maxRecDepth 10000
namespace Go.E
open Go Go.Proofs Go.Eng
def hit (rows : List Row) (v i : Nat) : Bool := decide ((rowAt rows i).f1 = -1) && !decide ((atT (rowAt rows i).f0 v).f0 = 0)
def pick (rows : List Row) (v : Nat) : Option Nat := fst rows.length (hit rows v)
def stepP (rows : List Row) (v : Nat) : Option (List Row) := match pick rows v with | none => some rows | some a => takeP rows a v
def runF (rows : List Row) : List Nat → Option (List Row)
  | [] => some rows
  | v :: vs => match stepP rows v with | none => none | some r => runF r vs
theorem hit1P {r : Row} {v : Nat} : m_gauss_system_solve_1 r (v : Int) = some (decide (r.f1 = -1) && !decide ((atT r.f0 v).f0 = 0)) := by
  unfold m_gauss_system_solve_1
  rw [atP]
  cases decide (r.f1 = -1) <;> rfl
theorem pickP {rows : List Row} {v : Nat} (hb : rows.length ≤ 1000) : m_slices_IndexFunc_gauss_row rows (fun x0 => m_gauss_system_solve_1 x0 (v : Int)) = some (match pick rows v with | some i => (i : Int) | none => -1) := by
  unfold m_slices_IndexFunc_gauss_row
  rw [show ((0 : Int)) = ((0 : Nat) : Int) from rfl, loopO_first (b := m_slices_IndexFunc_gauss_row_L0 rows _) (fun i : Nat => (i : Int)) rows.length (hit rows v) (fun i => (i : Int)) () ?_ ?_]
  · unfold pick
    cases fst rows.length (hit rows v) <;> rfl
  · intro i hi _
    unfold m_slices_IndexFunc_gauss_row_L0
    dsimp only
    rw [decide_eq_true (show (i : Int) < (rows.length : Int) by omega), ifB_true, row_gi hi]
    simp only [some_bind', hit1P]
    rw [wrap_succ (by omega)]
    show ifB (hit rows v i) _ _ = _
    cases hit rows v i <;> rfl
  · intro _
    unfold m_slices_IndexFunc_gauss_row_L0
    dsimp only
    rw [decide_eq_false (show ¬ (rows.length : Int) < (rows.length : Int) by omega)]
    rfl
theorem over_steps {l : List Row} (hb : l.length ≤ 1000) : ∀ k i : Nat, i + k = 8 → loopO m_gauss_system_solve_L0 ((i : Int), true, l) = some (true, l) := by
  intro k
  induction k with
  | zero =>
    intro i hi
    refine loopO_inr ?_
    unfold m_gauss_system_solve_L0
    dsimp only
    rw [decide_eq_false (by omega)]; rfl
  | succ k ih =>
    intro i hi
    have hb : m_gauss_system_solve_L0 ((i : Int), true, l) = some (.inl (((i + 1 : Nat) : Int), true, l)) := by
      unfold m_gauss_system_solve_L0
      dsimp only
      rw [decide_eq_true (show (i : Int) < 8 by omega), ifB_true, pickP hb, wrap_succ (by omega)]
      simp only [some_bind']
      cases pick l i with
      | none => rfl
      | some a =>
        dsimp only
        rw [decide_eq_true (show (0 : Int) ≤ (a : Int) by omega)]; rfl
    rw [loopO_inl hb]
    exact ih (i + 1) (by omega)
theorem step_good {rows r : List Row} {v : Nat} (h : goodL rows) (e : stepP rows v = some r) : goodL r ∧ r.length = rows.length := by
  unfold stepP at e
  split at e
  · cases e; exact ⟨h, rfl⟩
  · exact take_good h e
theorem steps_loop : ∀ (k i : Nat) (rows : List Row), i + k = 8 → goodL rows → rows.length ≤ 1000 → ∃ b l, loopO m_gauss_system_solve_L0 ((i : Int), false, rows) = some (b, l) ∧ (match runF rows (List.range' i k) with | some r => b = false ∧ l = r | none => b = true) := by
  intro k
  induction k with
  | zero =>
    intro i rows hi hg hb
    refine ⟨_, _, loopO_inr (x := (false, rows)) ?_, rfl, rfl⟩
    unfold m_gauss_system_solve_L0
    dsimp only
    rw [decide_eq_false (by omega)]; rfl
  | succ k ih =>
    intro i rows hi hg hb
    rw [List.range'_succ]
    show ∃ b l, _ ∧ (match (match stepP rows i with | none => none | some r => runF r (List.range' (i + 1) k)) with | some r => b = false ∧ l = r | none => b = true)
    cases hp : pick rows i with
    | none =>
      have hb' : m_gauss_system_solve_L0 ((i : Int), false, rows) = some (.inl (((i + 1 : Nat) : Int), false, rows)) := by
        unfold m_gauss_system_solve_L0
        dsimp only
        rw [decide_eq_true (show (i : Int) < 8 by omega), ifB_true, pickP hb, hp, wrap_succ (by omega)]
        rfl
      rw [loopO_inl hb', show stepP rows i = some rows by unfold stepP; rw [hp]]
      exact ih (i + 1) rows (by omega) hg hb
    | some a =>
      have ha : a < rows.length := (fst_some hp).1
      obtain ⟨s, hs, hsl, hm⟩ := takeE (v := i) ha hg hb
      have hb' : m_gauss_system_solve_L0 ((i : Int), false, rows) = some (.inl (((i + 1 : Nat) : Int), s.f1, s.f0)) := by
        unfold m_gauss_system_solve_L0
        dsimp only
        rw [decide_eq_true (show (i : Int) < 8 by omega), ifB_true, pickP hb, hp, wrap_succ (by omega)]
        simp only [some_bind']
        rw [decide_eq_true (show (0 : Int) ≤ (a : Int) by omega)]
        simp only [ifB_true, Bool.not_false, some_bind', hs]
      rw [loopO_inl hb', show stepP rows i = takeP rows a i by unfold stepP; rw [hp]]
      cases ht : takeP rows a i with
      | none =>
        rw [ht] at hm
        rw [hm]
        exact ⟨true, s.f0, over_steps (by omega) k (i + 1) (by omega), rfl⟩
      | some r =>
        rw [ht] at hm
        subst hm
        have hg' := take_good hg ht
        exact ih (i + 1) r (by omega) hg'.1 (by omega)
def key (l : List Row) (i : Nat) : Int := (rowAt l i).f1
def inKeys (l : List Row) : Prop := ∀ i, -1 ≤ key l i ∧ key l i < 8
theorem keys_perm {l l' : List Row} (h : l'.Perm l) (hk : inKeys l) : inKeys l' := by
  intro i
  unfold key
  by_cases hi : i < l'.length
  · have hm : l'[i] ∈ l := h.mem_iff.1 (List.getElem_mem hi)
    obtain ⟨j, hj, e⟩ := List.getElem_of_mem hm
    have := hk j
    unfold key at this
    rw [← row_of hi, ← e, row_of hj]; exact this
  · unfold rowAt; rw [List.getElem?_eq_none (by omega)]; exact ⟨by decide, by decide⟩
theorem cmpP {a b : Row} (ha : -1 ≤ a.f1 ∧ a.f1 < 8) (hb : -1 ≤ b.f1 ∧ b.f1 < 8) : m_gauss_Solve_2 a b = some (a.f1 - b.f1) := by
  unfold m_gauss_Solve_2
  rw [wrap_i64 (by omega) (by omega)]
noncomputable abbrev cmpF : Row → Row → Option Int := fun x0 x1 => m_gauss_Solve_2 x0 x1
structure Ins (rows : List Row) (i : Nat) (s : Int × List Row) (j : Nat) : Prop where
  a : s.1 = (j : Int)
  le : j ≤ i
  p : s.2.Perm rows
  o : ∀ x y, x < y → y ≤ i → x ≠ j → y ≠ j → key s.2 x ≤ key s.2 y
  u : ∀ y, j < y → y ≤ i → key s.2 j ≤ key s.2 y
theorem ins_loop {rows : List Row} {i : Nat} (hi : i < rows.length) (hb : rows.length ≤ 1000) (hk : inKeys rows) {l : List Row} (h : Ins rows i ((i : Int), l) i) :
    ∃ r, loopO (m_slices_insertionSortCmpFunc__gauss_row_L1 0 cmpF) ((i : Int), l) = some r ∧ (r.Perm rows ∧ ∀ x y, x < y → y ≤ i → key r x ≤ key r y) := by
  refine loopO_total (fun s => ∃ j, Ins rows i s j) (fun s => s.1.toNat) _ ?_ _ ⟨i, h⟩
  rintro ⟨_, l⟩ ⟨j, ⟨rfl, hle, hp, ho, hu⟩⟩
  dsimp only at hp ho hu
  have hl := hp.length_eq
  have kk := keys_perm hp hk
  by_cases hz : j = 0
  · right
    refine ⟨l, ?_, hp, fun x y h1 h2 => ?_⟩
    · unfold m_slices_insertionSortCmpFunc__gauss_row_L1
      dsimp only
      rw [decide_eq_false (show ¬ (0 : Int) < (j : Int) by omega)]
      rfl
    · by_cases e : x = j
      · subst e; exact hu y (by omega) h2
      · exact ho x y h1 h2 e (by omega)
  · have e1 : IntKind.wrap .i64 ((j : Int) - 1) = ((j - 1 : Nat) : Int) := by rw [wrap_i64 (by omega) (by omega)]; omega
    have g1 : gi l (j : Int) = some (rowAt l j) := row_gi (by omega)
    have g2 : gi l ((j - 1 : Nat) : Int) = some (rowAt l (j - 1)) := row_gi (by omega)
    have c1 := cmpP (a := rowAt l j) (b := rowAt l (j - 1)) (kk j) (kk (j - 1))
    by_cases hlt : key l j < key l (j - 1)
    · left
      obtain ⟨l2, hl2⟩ : ∃ l2, l2 = (l.set j (rowAt l (j - 1))).set (j - 1) (rowAt l j) := ⟨_, rfl⟩
      have kl : ∀ x, key l2 x = if x = j - 1 then key l j else if x = j then key l (j - 1) else key l x := by
        intro x
        have hc : l2[x]? = if x = j - 1 then some (rowAt l j) else if x = j then some (rowAt l (j - 1)) else l[x]? := by
          rw [hl2, List.getElem?_set]
          by_cases h1 : j - 1 = x
          · rw [if_pos h1, if_pos (by rw [List.length_set]; omega), if_pos h1.symm]
          · rw [if_neg h1, if_neg (fun e => h1 e.symm), List.getElem?_set]
            by_cases h2 : j = x
            · rw [if_pos h2, if_pos (by omega), if_pos h2.symm]
            · rw [if_neg h2, if_neg (fun e => h2 e.symm)]
        unfold key
        unfold rowAt at hc ⊢
        rw [hc]
        split
        · rfl
        · split <;> rfl
      have hp2 : l2.Perm l := by
        have := List.set_set_perm («as» := l) (i := j) (j := j - 1) (by omega) (by omega)
        rw [row_of (by omega), row_of (by omega)] at this
        rw [hl2]; exact this
      refine ⟨(((j - 1 : Nat) : Int), l2), ?_, ⟨j - 1, rfl, by omega, hp2.trans hp, ?_, ?_⟩, by dsimp only; omega⟩
      · unfold m_slices_insertionSortCmpFunc__gauss_row_L1
        dsimp only
        rw [decide_eq_true (show (0 : Int) < (j : Int) by omega), e1, rq_true (decide_eq_true (show (0 : Int) ≤ (j : Int) by omega)), rq_true (decide_eq_true (show (j : Int) < (l.length : Int) by omega)), rq_true (decide_eq_true (show (0 : Int) ≤ ((j - 1 : Nat) : Int) by omega)), rq_true (decide_eq_true (show ((j - 1 : Nat) : Int) < (l.length : Int) by omega)), g1, g2]
        simp only [ifB_true, some_bind', c1]
        have : decide ((rowAt l j).f1 - (rowAt l (j - 1)).f1 < 0) = true := decide_eq_true (by unfold key at hlt; omega)
        rw [this]
        simp only [ifB_true, Int.toNat_natCast]
        have g3 : gi (l.set j (rowAt l (j - 1))) ((j - 1 : Nat) : Int) = some (rowAt (l.set j (rowAt l (j - 1))) (j - 1)) := row_gi (by rw [List.length_set]; omega)
        rw [g3, some_bind', ← hl2]
      · intro x y h1 h2 h3 h4
        dsimp only
        rw [kl, kl, if_neg h3, if_neg h4]
        by_cases hx : x = j
        · rw [if_pos hx, if_neg (by omega)]
          exact ho (j - 1) y (by omega) h2 (by omega) (by omega)
        · rw [if_neg hx]
          by_cases hy : y = j
          · rw [if_pos hy]
            exact ho x (j - 1) (by omega) (by omega) hx (by omega)
          · rw [if_neg hy]
            exact ho x y h1 h2 hx hy
      · intro y h1 h2
        dsimp only
        rw [kl, kl, if_pos rfl, if_neg (by omega)]
        by_cases hy : y = j
        · rw [if_pos hy]; omega
        · rw [if_neg hy]; exact hu y (by omega) h2
    · right
      refine ⟨l, ?_, hp, fun x y h1 h2 => ?_⟩
      · unfold m_slices_insertionSortCmpFunc__gauss_row_L1
        dsimp only
        rw [decide_eq_true (show (0 : Int) < (j : Int) by omega), e1, rq_true (decide_eq_true (show (0 : Int) ≤ (j : Int) by omega)), rq_true (decide_eq_true (show (j : Int) < (l.length : Int) by omega)), rq_true (decide_eq_true (show (0 : Int) ≤ ((j - 1 : Nat) : Int) by omega)), rq_true (decide_eq_true (show ((j - 1 : Nat) : Int) < (l.length : Int) by omega)), g1, g2]
        simp only [ifB_true, some_bind', c1]
        have : decide ((rowAt l j).f1 - (rowAt l (j - 1)).f1 < 0) = false := decide_eq_false (by unfold key at hlt; omega)
        rw [this]
        rfl
      · by_cases hx : x = j
        · subst hx; exact hu y h1 h2
        · by_cases hy : y = j
          · subst hy
            by_cases e : x = y - 1
            · subst e; omega
            · have := ho x (y - 1) (by omega) (by omega) hx (by omega)
              omega
          · exact ho x y h1 h2 hx hy
theorem sortP {rows : List Row} (hb : rows.length ≤ 12) (hk : inKeys rows) : ∃ s, m_slices_SortStableFunc_gauss_row rows cmpF = some s ∧ s.Perm rows ∧ ∀ x y, x < y → y < rows.length → key s x ≤ key s y := by
  have ins : ∃ s, m_slices_insertionSortCmpFunc__gauss_row rows 0 (rows.length : Int) cmpF = some s ∧ s.Perm rows ∧ ∀ x y, x < y → y < rows.length → key s x ≤ key s y := by
    unfold m_slices_insertionSortCmpFunc__gauss_row
    have main : ∀ (k i : Nat) (l : List Row), i + k = rows.length → 1 ≤ i → l.Perm rows → (∀ x y, x < y → y < i → key l x ≤ key l y) → ∃ s, loopO (m_slices_insertionSortCmpFunc__gauss_row_L0 (rows.length : Int) 0 cmpF) ((i : Int), l) = some s ∧ s.Perm rows ∧ ∀ x y, x < y → y < rows.length → key s x ≤ key s y := by
      intro k
      induction k with
      | zero =>
        intro i l hi _ hp ho
        refine ⟨l, loopO_inr ?_, hp, fun x y h1 h2 => ho x y h1 (by omega)⟩
        unfold m_slices_insertionSortCmpFunc__gauss_row_L0
        dsimp only
        rw [decide_eq_false (by omega)]; rfl
      | succ k ih =>
        intro i l hi h1 hp ho
        obtain ⟨r, hr, hrp, hro⟩ := ins_loop (i := i) (rows := rows) (by omega) (by omega) hk (l := l) ⟨rfl, Nat.le_refl _, hp, fun x y a b c d => ho x y a (by omega), fun y a b => by omega⟩
        have hb : m_slices_insertionSortCmpFunc__gauss_row_L0 (rows.length : Int) 0 cmpF ((i : Int), l) = some (.inl (((i + 1 : Nat) : Int), r)) := by
          unfold m_slices_insertionSortCmpFunc__gauss_row_L0
          dsimp only
          rw [decide_eq_true (show (i : Int) < (rows.length : Int) by omega), ifB_true, hr, wrap_succ (by omega)]
          rfl
        rw [loopO_inl hb]
        exact ih (i + 1) r (by omega) (by omega) hrp fun x y a b => hro x y a (by omega)
    rw [show IntKind.wrap .i64 ((0 : Int) + 1) = ((1 : Nat) : Int) from rfl]
    by_cases h0 : rows.length = 0
    · refine ⟨rows, ?_, .refl _, fun x y h1 h2 => by omega⟩
      rw [loopO_inr (x := rows)]
      · rfl
      · unfold m_slices_insertionSortCmpFunc__gauss_row_L0
        dsimp only
        rw [decide_eq_false (by omega)]; rfl
    · obtain ⟨s, hs, h⟩ := main (rows.length - 1) 1 rows (by omega) (by omega) (.refl _) fun x y h1 h2 => by omega
      exact ⟨s, by rw [hs]; rfl, h⟩
  obtain ⟨s, hs, h⟩ := ins
  refine ⟨s, ?_, h⟩
  unfold m_slices_SortStableFunc_gauss_row m_slices_stableCmpFunc__gauss_row
  rw [loopO_inr (x := ((0 : Int), rows))]
  · simp only [some_bind', hs]
    rw [loopO_inr (x := ())]
    · rfl
    · unfold m_slices_stableCmpFunc__gauss_row_L1
      dsimp only
      rw [decide_eq_false (by omega)]; rfl
  · unfold m_slices_stableCmpFunc__gauss_row_L0
    dsimp only
    rw [decide_eq_false (by omega)]; rfl
end Go.E
end
section
set_option linter.all false
set_option maxRecDepth 10000
namespace Go.E
open Go Go.Proofs Go.Eng
theorem mk_succ {α : Type} {n : Nat} {f : Nat → α} : mkL (n + 1) f = mkL n f ++ [f n] := by unfold mkL; rw [List.range_succ, List.map_append]; rfl
def tAt (l : List TTerm) (i : Nat) : TTerm := (l[i]?).getD zT
theorem t_gi {l : List TTerm} {i : Nat} (h : i < l.length) : gi l (i : Int) = some (tAt l i) := by rw [gi_of h]; unfold tAt; rw [List.getElem?_eq_getElem h]; rfl
theorem t_of {l : List TTerm} {i : Nat} (h : i < l.length) : l[i] = tAt l i := by unfold tAt; rw [List.getElem?_eq_getElem h]; rfl
def inL (l : List TTerm) : Prop := ∀ t ∈ l, in64T t
theorem t_in {l : List TTerm} (h : inL l) (i : Nat) : in64T (tAt l i) := by
  unfold tAt
  cases hq : l[i]? with
  | none => exact z_in
  | some t => exact h t (List.mem_of_getElem? hq)
def startL (l : List TTerm) : List Row := mkL l.length fun i => ⟨ownT (tAt l i), -1⟩
theorem own_in {t : TTerm} (h : in64T t) : in64T (ownT t) := by
  unfold ownT; split
  · exact trim_in h
  · exact ⟨n64, (fun _ h => by cases h), Nat.zero_le _⟩
structure W (rows : List Row) (v : Nat) : Prop where
  g : goodL rows
  r : ∀ i, i < rows.length → key rows i = -1 ∨ ∃ u : Nat, u < v ∧ key rows i = (u : Int)
  d : ∀ i j, i < rows.length → j < rows.length → key rows i ≠ -1 → key rows i = key rows j → i = j
theorem start_W {l : List TTerm} (h : inL l) : W (startL l) 0 := by
  have hk : ∀ i, i < (startL l).length → key (startL l) i = -1 := fun i hi => by
    unfold key startL; rw [row_mk (by unfold startL at hi; rwa [mk_len] at hi)]
  exact ⟨mkL_good fun i => own_in (t_in h i), fun i hi => .inl (hk i hi), fun i j hi hj hn => absurd (hk i hi) hn⟩
theorem take_some {rows r : List Row} {a v : Nat} (e : takeP rows a v = some r) : pivB rows a v = true ∧ (∀ i, i < rows.length → badR rows (pivT rows a v).1 a v i = false) ∧ r = mkL rows.length (newR rows (pivT rows a v).1 a v) := by
  unfold takeP at e
  split at e
  · rename_i h
    split at e
    · cases e
    · rename_i h2
      cases e
      exact ⟨h, fst_none.1 h2, rfl⟩
  · cases e
theorem take_key {rows r : List Row} {a v : Nat} (e : takeP rows a v = some r) {i : Nat} (hi : i < rows.length) : key r i = if i = a then (v : Int) else key rows i := by
  obtain ⟨_, _, rfl⟩ := take_some e
  unfold key
  rw [row_mk hi]
  unfold newR
  by_cases h : i = a
  · rw [if_pos h, if_pos h]
  · rw [if_neg h, if_neg h]
    split <;> rfl
theorem pick_some {rows : List Row} {v a : Nat} (h : pick rows v = some a) : a < rows.length ∧ key rows a = -1 ∧ (atT (rowAt rows a).f0 v).f0 ≠ 0 := by
  obtain ⟨h1, h2⟩ := fst_some h
  unfold hit at h2
  simp at h2
  exact ⟨h1, h2.1, h2.2⟩
theorem step_W {rows r : List Row} {v : Nat} (h : W rows v) (e : stepP rows v = some r) : W r (v + 1) := by
  unfold stepP at e
  cases hp : pick rows v with
  | none =>
    rw [hp] at e
    cases e
    exact ⟨h.g, fun i hi => (h.r i hi).imp id fun ⟨u, h1, h2⟩ => ⟨u, by omega, h2⟩, h.d⟩
  | some a =>
    rw [hp] at e
    dsimp only at e
    obtain ⟨ha, _, _⟩ := pick_some hp
    obtain ⟨hg, hl⟩ := take_good h.g e
    refine ⟨hg, fun i hi => ?_, fun i j hi hj hn he => ?_⟩
    · rw [take_key e (by omega)]
      split
      · exact .inr ⟨v, by omega, rfl⟩
      · exact (h.r i (by omega)).imp id fun ⟨u, h1, h2⟩ => ⟨u, by omega, h2⟩
    · rw [take_key e (by omega)] at hn he
      rw [take_key e (by omega)] at he
      have hv : ∀ k, k < rows.length → key rows k ≠ (v : Int) := fun k hk => by
        rcases h.r k hk with h1 | ⟨u, h1, h2⟩ <;> omega
      by_cases h1 : i = a
      · rw [if_pos h1] at he
        by_cases h2 : j = a
        · omega
        · rw [if_neg h2] at he
          exact absurd he.symm (hv j (by omega))
      · rw [if_neg h1] at he hn
        by_cases h2 : j = a
        · rw [if_pos h2] at he
          exact absurd he (hv i (by omega))
        · rw [if_neg h2] at he
          exact h.d i j (by omega) (by omega) hn he
theorem run_W : ∀ (k i : Nat) (rows r : List Row), W rows i → runF rows (List.range' i k) = some r → W r (i + k) ∧ r.length = rows.length := by
  intro k
  induction k with
  | zero => intro i rows r h e; cases e; exact ⟨h, rfl⟩
  | succ k ih =>
    intro i rows r h e
    rw [List.range'_succ] at e
    unfold runF at e
    cases hs : stepP rows i with
    | none => rw [hs] at e; cases e
    | some r1 =>
      rw [hs] at e
      obtain ⟨h1, h2⟩ := ih (i + 1) r1 r (step_W h hs) e
      exact ⟨by rw [show i + (k + 1) = i + 1 + k by omega]; exact h1, by rw [h2, (step_good h.g hs).2]⟩
def idxV (rows : List Row) (u : Nat) : Option Nat := fst rows.length fun i => decide (key rows i = (u : Int))
def pairs (rows : List Row) (v : Nat) : List (Nat × Nat) := (List.range v).filterMap fun u => (idxV rows u).map fun i => (i, u)
def usedR (rows : List Row) : List Row := (pairs rows 8).map fun p => rowAt rows p.1
theorem pair_mem {rows : List Row} {v : Nat} {p : Nat × Nat} (h : p ∈ pairs rows v) : p.1 < rows.length ∧ p.2 < v ∧ key rows p.1 = (p.2 : Int) := by
  unfold pairs at h
  obtain ⟨u, hu, h⟩ := List.mem_filterMap.1 h
  obtain ⟨i, hi, rfl⟩ := Option.map_eq_some_iff.1 h
  have := fst_some hi
  simp at this
  exact ⟨this.1, List.mem_range.1 hu, this.2⟩
def badC (r : Row) : Bool := decide (r.f1 = -1) && !decide (r.f0.f1.f0 = 0)
def endP (r : List Row) : List TTerm × List Int × Int := if r.any badC then ([], [], 1) else ((usedR r).map fun x => x.f0, (usedR r).map fun x => x.f1, 0)
def solP (l : List TTerm) : List TTerm × List Int × Int :=
  if l.any (fun t => !rt t) then ([], [], 2) else match runF (startL l) (List.range 8) with | none => ([], [], 2) | some r => endP r
theorem asc_eq : ∀ {l l' : List Row}, l.Pairwise (fun a b => a.f1 < b.f1) → l'.Pairwise (fun a b => a.f1 < b.f1) → (∀ x, x ∈ l ↔ x ∈ l') → l = l'
  | [], [], _, _, _ => rfl
  | [], a :: l', _, _, h => by have := (h a).2 List.mem_cons_self; cases this
  | a :: l, [], _, _, h => by have := (h a).1 List.mem_cons_self; cases this
  | a :: l, b :: l', h1, h2, h => by
    obtain ⟨ha, k1⟩ := List.pairwise_cons.1 h1
    obtain ⟨hb, k2⟩ := List.pairwise_cons.1 h2
    have e : a = b := by
      rcases List.mem_cons.1 ((h a).1 List.mem_cons_self) with e | e
      · exact e
      · rcases List.mem_cons.1 ((h b).2 List.mem_cons_self) with e' | e'
        · exact e'.symm
        · have := ha b e'; have := hb a e; omega
    subst e
    refine congrArg (List.cons a) (asc_eq k1 k2 fun x => ⟨fun hx => ?_, fun hx => ?_⟩)
    · rcases List.mem_cons.1 ((h x).1 (List.mem_cons_of_mem _ hx)) with e | e
      · subst e; have := ha x hx; omega
      · exact e
    · rcases List.mem_cons.1 ((h x).2 (List.mem_cons_of_mem _ hx)) with e | e
      · subst e; have := hb x hx; omega
      · exact e
theorem used_asc {rows : List Row} : (usedR rows).Pairwise fun a b => a.f1 < b.f1 := by
  unfold usedR
  rw [List.pairwise_map]
  have : (pairs rows 8).Pairwise fun p q => p.2 < q.2 := by
    unfold pairs
    refine List.Pairwise.filterMap _ (fun a a' h b hb b' hb' => ?_) List.pairwise_lt_range
    obtain ⟨i, _, rfl⟩ := Option.map_eq_some_iff.1 hb
    obtain ⟨i', _, rfl⟩ := Option.map_eq_some_iff.1 hb'
    exact h
  refine List.Pairwise.imp_of_mem (fun {p q} hp hq h => ?_) this
  have h1 := (pair_mem hp).2.2
  have h2 := (pair_mem hq).2.2
  unfold key at h1 h2
  omega
theorem used_mem {rows : List Row} (h : W rows 8) (x : Row) : x ∈ usedR rows ↔ x ∈ rows ∧ x.f1 ≠ -1 := by
  constructor
  · intro hx
    unfold usedR at hx
    obtain ⟨p, hp, rfl⟩ := List.mem_map.1 hx
    obtain ⟨h1, h2, h3⟩ := pair_mem hp
    refine ⟨by rw [← row_of h1]; exact List.getElem_mem h1, ?_⟩
    unfold key at h3; omega
  · rintro ⟨hx, hn⟩
    obtain ⟨i, hi, rfl⟩ := List.getElem_of_mem hx
    rw [row_of hi] at hn ⊢
    rcases h.r i hi with h1 | ⟨u, h1, h2⟩
    · exact absurd h1 hn
    · unfold usedR
      refine List.mem_map.2 ⟨(i, u), ?_, rfl⟩
      unfold pairs
      refine List.mem_filterMap.2 ⟨u, List.mem_range.2 h1, ?_⟩
      cases hq : idxV rows u with
      | none =>
        have := fst_none.1 hq i hi
        simp [h2] at this
      | some j =>
        have hj := fst_some hq
        simp at hj
        rw [h.d i j hi hj.1 hn (by rw [h2, hj.2])]; rfl
theorem idxT {l : List TTerm} {f : TTerm → Option Bool} {g : TTerm → Bool} (h : l.length ≤ 1000) (hf : ∀ o ∈ l, f o = some (g o)) : m_slices_ContainsFunc_api_Term l f = some (l.any g) := by
  unfold m_slices_ContainsFunc_api_Term m_slices_IndexFunc_api_Term
  rw [show ((0 : Int)) = ((0 : Nat) : Int) from rfl, loopO_first (b := m_slices_IndexFunc_api_Term_L0 l f) (fun i : Nat => (i : Int)) l.length (fun i => match l[i]? with | some o => g o | none => false) (fun i => (i : Int)) () ?_ ?_]
  · cases hq : fst l.length (fun i => match l[i]? with | some o => g o | none => false) with
    | none =>
      rw [fst_none] at hq
      have : l.any g = false := by
        rw [List.any_eq_false]
        intro x hx
        obtain ⟨i, hi, rfl⟩ := List.getElem_of_mem hx
        have := hq i hi
        rw [List.getElem?_eq_getElem hi] at this
        simpa using this
      rw [this]; rfl
    | some i =>
      obtain ⟨h1, h2⟩ := fst_some hq
      rw [List.getElem?_eq_getElem h1] at h2
      have : l.any g = true := List.any_eq_true.2 ⟨_, List.getElem_mem h1, h2⟩
      rw [this]
      simp only [some_bind']
      rw [decide_eq_true (show ((0 : Nat) : Int) ≤ (i : Int) by omega)]
  · intro i hi _
    unfold m_slices_IndexFunc_api_Term_L0
    simp only [lt_cast, decide_eq_true hi, ifB_true, gi_of hi, some_bind', hf _ (List.getElem_mem hi), List.getElem?_eq_getElem hi]
    rw [wrap_succ (by omega)]
    cases g l[i] <;> rfl
  · intro _
    unfold m_slices_IndexFunc_api_Term_L0
    simp only [lt_cast, Nat.lt_irrefl, decide_false, ifB_false]
theorem start_loop {l : List TTerm} (h : inL l) (hl : l.length ≤ 12) : loopO (m_gauss_Solve_L0 l) (0, []) = some (startL l) := by
  have main := loopO_count (b := m_gauss_Solve_L0 l) l.length (fun i s => s = ((i : Int), mkL i fun i => (⟨ownT (tAt l i), -1⟩ : Row))) (fun r => r = startL l) ?_ ?_ (s := (0, [])) rfl
  · obtain ⟨r, hr, rfl⟩ := main
    exact hr
  · rintro i _ hi rfl
    left
    unfold m_gauss_Solve_L0
    dsimp only
    rw [decide_eq_true (show (i : Int) < (l.length : Int) by omega), ifB_true, t_gi hi]
    simp only [some_bind', ownP (t_in h i)]
    rw [rq_true (decide_eq_true (by rw [mk_len]; simp; omega)), wrap_succ (by omega)]
    exact ⟨_, rfl, by rw [mk_succ]⟩
  · rintro _ rfl
    unfold m_gauss_Solve_L0
    dsimp only
    rw [decide_eq_false (by omega)]
    exact ⟨_, rfl, rfl⟩
theorem end_loop {r s : List Row} {sy : TGauss_system} (hs : s.Perm r) (hw : W r 8) (hl : r.length ≤ 12) (hsy : sy.f0.length = s.length) (ho : ∀ x y, x < y → y < r.length → key s x ≤ key s y) :
    Option.bind (loopO (m_gauss_Solve_L1 sy s) ([], [], 0)) (fun z => (match z with  | .inl (v41, v43) =>  (some ((v41, v43, 0)))  | .inr r => (some r))) = some (endP r) := by
  have sl := hs.length_eq
  have key1 := loopO_first (b := m_gauss_Solve_L1 sy s) (fun i : Nat => (((s.take i).filter fun x => !decide (x.f1 = -1)).map (fun x => x.f0), ((s.take i).filter fun x => !decide (x.f1 = -1)).map (fun x => x.f1), (i : Int))) s.length (fun i => badC (rowAt s i))
    (fun _ => ([], [], 1)) ((s.filter fun x => !decide (x.f1 = -1)).map (fun x => x.f0), (s.filter fun x => !decide (x.f1 = -1)).map (fun x => x.f1)) ?_ ?_
  · rw [show (([], [], 0) : List TTerm × List Int × Int) = (((s.take 0).filter fun x => !decide (x.f1 = -1)).map (fun x => x.f0), ((s.take 0).filter fun x => !decide (x.f1 = -1)).map (fun x => x.f1), ((0 : Nat) : Int)) from rfl, key1]
    unfold endP
    have hm : ∀ x, x ∈ s ↔ x ∈ r := fun x => hs.mem_iff
    cases hq : fst s.length (fun i => badC (rowAt s i)) with
    | some i =>
      obtain ⟨h1, h2⟩ := fst_some hq
      have : r.any badC = true := List.any_eq_true.2 ⟨rowAt s i, (hm _).1 (by rw [← row_of h1]; exact List.getElem_mem h1), h2⟩
      rw [this]; rfl
    | none =>
      have hn := fst_none.1 hq
      have : r.any badC = false := by
        rw [List.any_eq_false]
        intro x hx
        obtain ⟨i, hi, rfl⟩ := List.getElem_of_mem ((hm x).2 hx)
        have := hn i hi
        rw [row_of hi, this]; decide
      rw [this]
      have e : (s.filter fun x => !decide (x.f1 = -1)) = usedR r := by
        refine asc_eq ?_ used_asc fun x => ?_
        · have h1 : s.Pairwise fun a b => a.f1 = -1 ∨ b.f1 = -1 ∨ a.f1 < b.f1 := by
            have hd : s.Pairwise fun a b => a.f1 = -1 ∨ b.f1 = -1 ∨ a.f1 ≠ b.f1 := by
              refine hs.symm.pairwise ?_ fun {x y} h => by
                rcases h with h | h | h
                · exact .inr (.inl h)
                · exact .inl h
                · exact .inr (.inr fun e => h e.symm)
              rw [List.pairwise_iff_getElem]
              intro i j hi hj hij
              by_cases h1 : r[i].f1 = -1
              · exact .inl h1
              · refine .inr (.inr fun e => ?_)
                have := hw.d i j hi hj (by unfold key; rw [← row_of hi]; exact h1) (by unfold key; rw [← row_of hi, ← row_of hj]; exact e)
                omega
            have hle : s.Pairwise fun a b => a.f1 ≤ b.f1 := by
              rw [List.pairwise_iff_getElem]
              intro i j hi hj hij
              have := ho i j hij (by omega)
              unfold key at this
              rw [row_of hi, row_of hj]; exact this
            exact (hd.and hle).imp fun h => by
              rcases h with ⟨h | h | h, h'⟩
              · exact .inl h
              · exact .inr (.inl h)
              · exact .inr (.inr (by omega))
          refine List.Pairwise.imp_of_mem (fun {p q} hp hq h => ?_) (h1.filter _)
          have hp := (List.mem_filter.1 hp).2
          have hq := (List.mem_filter.1 hq).2
          simp at hp hq
          rcases h with h | h | h
          · exact absurd h hp
          · exact absurd h hq
          · exact h
        · rw [used_mem hw, List.mem_filter, hm]
          simp
      rw [e]; rfl
  · intro i hi _
    unfold m_gauss_Solve_L1
    dsimp only
    rw [decide_eq_true (show (i : Int) < (sy.f0.length : Int) by omega), ifB_true, rq_true (decide_eq_true (show (0 : Int) ≤ (i : Int) by omega)), rq_true rfl, row_gi hi]
    simp only [some_bind']
    have e0 : s.take (i + 1) = s.take i ++ [rowAt s i] := by rw [List.take_add_one, List.getElem?_eq_getElem hi, row_of hi]; rfl
    have fl : ((s.take i).filter fun x => !decide (x.f1 = -1)).length ≤ 12 := Nat.le_trans (List.length_filter_le _ _) (by rw [List.length_take]; omega)
    rw [wrap_succ (by omega), e0, List.filter_append, List.map_append, List.map_append]
    unfold badC
    by_cases h1 : (rowAt s i).f1 = -1
    · rw [decide_eq_true h1]
      simp only [Bool.not_true, ifB_false, Bool.true_and]
      have e1 : List.filter (fun x : Row => !decide (x.f1 = -1)) [rowAt s i] = [] := by simp [h1]
      rw [e1]
      by_cases h2 : (rowAt s i).f0.f1.f0 = 0
      · rw [decide_eq_true h2]
        simp only [Bool.not_true, ifB_false, some_bind', List.map_nil, List.append_nil]
        rfl
      · rw [decide_eq_false h2]
        rfl
    · rw [decide_eq_false h1]
      have e1 : List.filter (fun x : Row => !decide (x.f1 = -1)) [rowAt s i] = [rowAt s i] := by simp [h1]
      rw [e1]
      simp only [Bool.not_false, ifB_true]
      rw [rq_true (decide_eq_true (by rw [List.length_map]; simp; omega)), rq_true (decide_eq_true (by rw [List.length_map]; simp; omega))]
      rfl
  · intro _
    unfold m_gauss_Solve_L1
    dsimp only
    rw [decide_eq_false (by omega)]
    rw [List.take_length]; rfl
theorem solveE {l : List TTerm} (h : inL l) (hl : l.length ≤ 12) : m_gauss_Solve l = some (solP l) := by
  unfold m_gauss_Solve solP
  rw [decide_eq_false (show ¬ 400 < (l.length : Int) by omega), idxT (g := fun t => !rt t) (by omega) fun t ht => by unfold m_gauss_Solve_1; rw [tR (h t ht)]; rfl]
  simp only [ifB_false, some_bind']
  cases l.any (fun t => !rt t) with
  | true => rfl
  | false =>
    simp only [ifB_false, start_loop h hl, some_bind', Bool.false_eq_true, if_false]
    have hw := start_W h
    have sl : (startL l).length = l.length := mk_len
    obtain ⟨b, l', h1, h2⟩ := steps_loop 8 0 (startL l) (by omega) hw.g (by omega)
    have h1' : m_gauss_system_solve ⟨startL l, false⟩ = some ⟨l', b⟩ := by
      unfold m_gauss_system_solve
      dsimp only
      rw [show ((0 : Int)) = ((0 : Nat) : Int) from rfl, h1]; rfl
    rw [h1', ← List.range_eq_range'] at *
    simp only [some_bind']
    cases hr : runF (startL l) (List.range 8) with
    | none =>
      rw [hr] at h2
      dsimp only at h2
      rw [h2]; rfl
    | some r =>
      rw [hr] at h2
      obtain ⟨rfl, rfl⟩ := h2
      simp only [ifB_false]
      rw [List.range_eq_range'] at hr
      obtain ⟨w8, rl⟩ := run_W 8 0 _ _ hw hr
      have hk : inKeys l' := fun i => by
        by_cases hi : i < l'.length
        · rcases w8.r i hi with h | ⟨u, h1, h2⟩ <;> omega
        · unfold key rowAt; rw [List.getElem?_eq_none (by omega)]; exact ⟨by decide, by decide⟩
      obtain ⟨s, s1, s2, s3⟩ := sortP (rows := l') (by omega) hk
      have s1' : m_slices_SortStableFunc_gauss_row l' (fun x0 x1 => m_gauss_Solve_2 x0 x1) = some s := s1
      rw [s1']
      simp only [some_bind']
      exact end_loop s2 (by simpa using w8) (by omega) s2.length_eq.symm s3
end Go.E
end
section
set_option linter.all false
set_option maxRecDepth 10000
namespace Go.E
open Go Go.Proofs Go.Eng
theorem pairs_len {rows : List Row} {v : Nat} : (pairs rows v).length ≤ v := by
  unfold pairs
  exact Nat.le_trans (List.length_filterMap_le _ _) (by simp)
end Go.E
end
section
set_option linter.all false
set_option maxRecDepth 10000
namespace Go.E
open Go Go.Proofs Go.Eng
theorem wf64 {a : Int} (h : (Lit.int .i64 a).wf = true) : BallQ.In64 a := by
  simp [Lit.wf, IntKind.min, IntKind.max, IntKind.signed, IntKind.bits] at h
  exact ⟨by omega, by omega⟩
theorem okR {r : TRat} (h : okTRat r) : in64R r := ⟨wf64 h.1, wf64 h.2.1⟩
theorem eqR_self {r : TRat} : eqTRat r r = true := by unfold eqTRat; simp
theorem idxI {l : List Int} {x : Int} (hl : l.length ≤ 1000) : m_slices_Contains_int l x = some (l.any fun y => decide (x = y)) := by
  unfold m_slices_Contains_int m_slices_Index_int
  rw [show ((0 : Int)) = ((0 : Nat) : Int) from rfl, loopO_first (b := m_slices_Index_int_L0 l x) (fun i : Nat => (i : Int)) l.length (fun i => match l[i]? with | some o => decide (x = o) | none => false) (fun i => (i : Int)) () ?_ ?_]
  · cases hq : fst l.length (fun i => match l[i]? with | some o => decide (x = o) | none => false) with
    | none =>
      rw [fst_none] at hq
      have : l.any (fun y => decide (x = y)) = false := by
        rw [List.any_eq_false]
        intro x hx
        obtain ⟨i, hi, rfl⟩ := List.getElem_of_mem hx
        have := hq i hi
        rw [List.getElem?_eq_getElem hi] at this
        simpa using this
      rw [this]; rfl
    | some i =>
      obtain ⟨h1, h2⟩ := fst_some hq
      rw [List.getElem?_eq_getElem h1] at h2
      have : l.any (fun y => decide (x = y)) = true := List.any_eq_true.2 ⟨_, List.getElem_mem h1, h2⟩
      rw [this]
      simp only [some_bind']
      rw [decide_eq_true (show ((0 : Nat) : Int) ≤ (i : Int) by omega)]
  · intro i hi _
    unfold m_slices_Index_int_L0
    simp only [lt_cast, decide_eq_true hi, ifB_true, gi_of hi, some_bind', List.getElem?_eq_getElem hi]
    rw [wrap_succ (by omega)]
    cases decide (x = l[i]) <;> rfl
  · intro _
    unfold m_slices_Index_int_L0
    simp only [lt_cast, Nat.lt_irrefl, decide_false, ifB_false]
abbrev w1 : List TTerm := [⟨[⟨1, 1⟩, ⟨1, 1⟩], ⟨-1, 1⟩⟩, ⟨[⟨1, 1⟩, ⟨-1, 1⟩], ⟨0, 1⟩⟩]
abbrev w2 : List TTerm := [⟨[], ⟨1, 1⟩⟩]
theorem used_in {r : List Row} (h : goodL r) : inL ((usedR r).map fun x => x.f0) := by
  intro t ht
  obtain ⟨x, hx, rfl⟩ := List.mem_map.1 ht
  unfold usedR at hx
  obtain ⟨p, _, rfl⟩ := List.mem_map.1 hx
  exact h p.1
end Go.E
end
section
set_option linter.all false
set_option maxRecDepth 10000
namespace Go.E
open Go Go.Proofs Go.Eng
def qv (r : TRat) : Rat := BallQ.q r.f0 r.f1
theorem rr_right {r : TRat} (h : rr r = true) : BallQ.Right r.f0 r.f1 := of_decide_eq_true h
theorem qv_inj {a b : TRat} (ha : in64R a) (hb : in64R b) (ra : rr a = true) (rb : rr b = true) (e : qv a = qv b) : a = b := by
  obtain ⟨h1, h2⟩ := BallQ.right_inj (rr_right ra) ha.1 ha.2 (rr_right rb) hb.1 hb.2 e
  cases a; cases b; cases h1; cases h2; rfl
theorem qv_zero {r : TRat} (h : rr r = true) : r.f0 = 0 ↔ qv r = 0 := by
  unfold qv BallQ.q
  obtain ⟨h0, _, _⟩ := rr_right h
  rw [Rat.mkRat_eq_zero (by omega)]
theorem qv_n : qv ⟨0, 1⟩ = 0 := by decide +kernel
theorem qv_1 : qv ⟨1, 1⟩ = 1 := by decide +kernel
theorem out_q {x : Rat} (h : (toR (BallQ.out x)).2 = 0) : qv (toR (BallQ.out x)).1 = x := by
  by_cases hf : BallQ.fits x
  · rw [out_ok hf]; exact BallQ.q_self x
  · rw [out_over hf] at h; cases h
theorem addR_q {a b : TRat} (h : (addR a b).2 = 0) : rr a = true ∧ rr b = true ∧ qv (addR a b).1 = qv a + qv b := by
  unfold addR addS at h ⊢
  split at h
  · rename_i hc
    rw [if_pos hc]
    exact ⟨decide_eq_true hc.1, decide_eq_true hc.2, out_q h⟩
  · cases h
theorem mulR_q {a b : TRat} (h : (mulR a b).2 = 0) : rr a = true ∧ rr b = true ∧ qv (mulR a b).1 = qv a * qv b := by
  unfold mulR mulS at h ⊢
  split at h
  · rename_i hc
    rw [if_pos hc]
    exact ⟨decide_eq_true hc.1, decide_eq_true hc.2, out_q h⟩
  · cases h
theorem inv_q {n d : Int} (h : BallQ.Right n d) (hz : n ≠ 0) : BallQ.q (invN n d) (n.natAbs : Int) = (BallQ.q n d)⁻¹ := by
  obtain ⟨h0, _, _⟩ := h
  unfold BallQ.q
  rw [BallQ.q_div, BallQ.q_div]
  obtain ⟨D, rfl⟩ : ∃ D : Nat, d = (D : Int) := ⟨d.toNat, by omega⟩
  have hD : (D : Rat) ≠ 0 := BallQ.cast_ne (by omega)
  rw [Int.toNat_natCast, Int.toNat_natCast]
  unfold invN
  by_cases hn : n < 0
  · rw [if_pos hn]
    obtain ⟨N, rfl⟩ : ∃ N : Nat, n = -(N : Int) := ⟨n.natAbs, by omega⟩
    have hN : (N : Rat) ≠ 0 := BallQ.cast_ne (by omega)
    rw [Int.natAbs_neg, Int.natAbs_natCast]
    simp only [Rat.intCast_neg, Rat.intCast_natCast]
    grind
  · rw [if_neg hn]
    obtain ⟨N, rfl⟩ : ∃ N : Nat, n = (N : Int) := ⟨n.natAbs, by omega⟩
    have hN : (N : Rat) ≠ 0 := BallQ.cast_ne (by omega)
    rw [Int.natAbs_natCast]
    simp only [Rat.intCast_natCast]
    grind
theorem divR_q {a b : TRat} (hb : in64R b) (h : (divR a b).2 = 0) : rr a = true ∧ rr b = true ∧ qv b ≠ 0 ∧ qv (divR a b).1 = qv a * (qv b)⁻¹ := by
  unfold divR divS at h ⊢
  split at h
  · rename_i hc
    rw [if_pos hc]
    unfold mulS at h ⊢
    split at h
    · rename_i hc2
      rw [if_pos hc2]
      refine ⟨decide_eq_true hc.1, decide_eq_true hc.2.1, fun e => hc.2.2 ((qv_zero (decide_eq_true hc.2.1)).2 e), ?_⟩
      rw [out_q h, inv_q hc.2.1 hc.2.2]; rfl
    · cases h
  · cases h
theorem neg_q {c : TRat} (hc : in64R c) (h : rr c = true) : rr (neg c) = true ∧ qv (neg c) = -qv c := by
  have hr := rr_right h
  have e : neg c = ⟨-c.f0, c.f1⟩ := by
    unfold neg
    obtain ⟨⟨n1, n2⟩, _⟩ := hc
    have := hr.2.1
    rw [wrap_i64 (by omega) (by omega)]; simp
  rw [e]
  have := right_neg hr hc.1
  exact ⟨decide_eq_true this.1, this.2.2⟩
def V (t : TTerm) (i : Nat) : Rat := qv (atT t i)
def K (t : TTerm) : Rat := qv t.f1
def Cn (t : TTerm) : Prop := ∀ n, t.f0.length = n + 1 → (atT t n).f0 ≠ 0
structure Ok (t : TTerm) : Prop where
  i : in64T t
  r : rt t = true
  c : Cn t
theorem cut_zero {l : List TRat} : ∀ {n : Nat}, n ≤ l.length → ∀ i (h : i < l.length), i < n → cutN l n ≤ i → (l[i]).f0 = 0 := by
  intro n
  induction n with
  | zero => intro _ i _ hi; omega
  | succ n ih =>
    intro hn i h hi hc
    rw [cutN_succ (by omega)] at hc
    by_cases hz : (l[n]).f0 = 0
    · rw [if_pos hz] at hc
      by_cases e : i = n
      · subst e; exact hz
      · exact ih (by omega) i h (by omega) hc
    · rw [if_neg hz] at hc; omega
theorem cut_last {l : List TRat} : ∀ {n : Nat}, n ≤ l.length → ∀ m, cutN l n = m + 1 → ∃ h : m < l.length, (l[m]).f0 ≠ 0 := by
  intro n
  induction n with
  | zero => intro _ m h; cases h
  | succ n ih =>
    intro hn m h
    rw [cutN_succ (by omega)] at h
    by_cases hz : (l[n]).f0 = 0
    · rw [if_pos hz] at h; exact ih (by omega) m h
    · rw [if_neg hz] at h
      obtain rfl : n = m := by omega
      exact ⟨by omega, hz⟩
theorem trim_at {t : TTerm} {i : Nat} : atT (trimT t) i = if i < cutN t.f0 t.f0.length then atT t i else ⟨0, 1⟩ := by
  unfold atT trimT
  dsimp only
  rw [List.getElem?_take]
  split <;> rfl
theorem trim_V {t : TTerm} (h : rt t = true) (i : Nat) : V (trimT t) i = V t i := by
  unfold V
  rw [trim_at]
  split
  · rfl
  · rename_i hc
    by_cases hi : i < t.f0.length
    · have hz := cut_zero (Nat.le_refl _) i hi hi (by omega)
      have ha := at_rr h i
      have e : atT t i = t.f0[i] := by unfold atT; rw [List.getElem?_eq_getElem hi]; rfl
      rw [e] at ha ⊢
      rw [qv_n, (qv_zero ha).1 hz]
    · unfold atT; rw [List.getElem?_eq_none (by omega)]; rfl
theorem trim_cn {t : TTerm} : Cn (trimT t) := by
  intro n h
  have hc := cutN_le t.f0 t.f0.length
  unfold trimT at h
  dsimp only at h
  rw [List.length_take] at h
  obtain ⟨h1, h2⟩ := cut_last (Nat.le_refl _) n (show cutN t.f0 t.f0.length = n + 1 by omega)
  rw [trim_at, if_pos (by omega)]
  unfold atT
  rw [List.getElem?_eq_getElem h1]; exact h2
theorem lst_at {f : Nat → TRat × Int} {k : TRat} {n i : Nat} : atT ⟨lst f n, k⟩ i = if i < n then (f i).1 else ⟨0, 1⟩ := by
  unfold atT lst
  dsimp only
  rw [List.getElem?_map]
  by_cases h : i < n
  · rw [List.getElem?_range h, if_pos h]; rfl
  · rw [List.getElem?_eq_none (by rw [List.length_range]; omega), if_neg h]; rfl
theorem each_ok {k : TRat × Int} {f : Nat → TRat × Int} {n : Nat} (h : n ≤ 8) (hk : in64R k.1 ∧ (k.2 = 0 → rr k.1 = true)) (hf : ∀ i, in64R (f i).1 ∧ ((f i).2 = 0 → rr (f i).1 = true)) (e : (eachT k f n).2 = 0) :
    Ok (eachT k f n).1 ∧ k.2 = 0 ∧ (∀ i, i < n → (f i).2 = 0) ∧ K (eachT k f n).1 = qv k.1 ∧ ∀ i, V (eachT k f n).1 i = if i < n then qv (f i).1 else 0 := by
  have g := each_good h hk hf
  unfold eachT at e g ⊢
  by_cases hz : k.2 = 0
  · rw [if_pos hz] at e g ⊢
    cases hq : fst n (bad f) with
    | some i =>
      rw [hq] at e
      have := (fst_some hq).2
      unfold bad at this
      simp at this
      exact absurd e this
    | none =>
      have hb0 := fst_none.1 hq
      have hz2 : ∀ i, i < n → (f i).2 = 0 := fun i hi => by have := hb0 i hi; unfold bad at this; simpa using this
      rw [hq] at g
      have hr := lst_rt (f := f) h (hk.2 hz) fun i hi => (hf i).2 (hz2 i hi)
      refine ⟨⟨g.1, g.2 rfl, trim_cn⟩, hz, hz2, rfl, fun i => ?_⟩
      dsimp only
      rw [trim_V hr]
      unfold V
      rw [lst_at]
      split
      · rfl
      · exact qv_n
  · rw [if_neg hz] at e; exact absurd e hz
theorem at_far {t : TTerm} {i : Nat} (h : t.f0.length ≤ i) : V t i = 0 := by
  unfold V atT; rw [List.getElem?_eq_none h]; exact qv_n
theorem addT_q {a b : TTerm} (h : (addT a b).2 = 0) : Ok (addT a b).1 ∧ K (addT a b).1 = K a + K b ∧ ∀ i, V (addT a b).1 i = V a i + V b i := by
  unfold addT at h ⊢
  split at h
  · rename_i hc
    rw [if_pos hc]
    simp only [Bool.and_eq_true] at hc
    have h1 := rt_len hc.1
    have h2 := rt_len hc.2
    obtain ⟨o, k0, f0, kq, vq⟩ := each_ok (by omega) (add_good _ _) (fun i => add_good _ _) h
    refine ⟨o, by rw [kq]; exact (addR_q k0).2.2, fun i => ?_⟩
    rw [vq]
    split
    · rename_i hi; exact (addR_q (f0 i hi)).2.2
    · rw [at_far (by omega), at_far (by omega)]; grind
  · cases h
theorem mulT_q {a : TTerm} {r : TRat} (h : (mulT a r).2 = 0) : rr r = true ∧ Ok (mulT a r).1 ∧ K (mulT a r).1 = K a * qv r ∧ ∀ i, V (mulT a r).1 i = V a i * qv r := by
  unfold mulT at h ⊢
  split at h
  · rename_i hc
    rw [if_pos hc]
    simp only [Bool.and_eq_true] at hc
    have h1 := rt_len hc.1
    obtain ⟨o, k0, f0, kq, vq⟩ := each_ok (by omega) (mul_good _ _) (fun i => mul_good _ _) h
    refine ⟨hc.2, o, by rw [kq]; exact (mulR_q k0).2.2, fun i => ?_⟩
    rw [vq]
    split
    · rename_i hi; exact (mulR_q (f0 i hi)).2.2
    · rw [at_far (by omega)]; grind
  · cases h
theorem lessT_q {a p : TTerm} {c : TRat} (hc : in64R c) (rc : rr c = true) (h : (lessT a p c).2 = 0) : Ok (lessT a p c).1 ∧ K (lessT a p c).1 = K a - qv c * K p ∧ ∀ i, V (lessT a p c).1 i = V a i - qv c * V p i := by
  unfold lessT at h ⊢
  split at h
  · rename_i hm
    rw [if_pos hm]
    obtain ⟨_, _, mk, mv⟩ := mulT_q hm
    obtain ⟨o, ak, av⟩ := addT_q h
    obtain ⟨_, hn⟩ := neg_q hc rc
    refine ⟨o, by rw [ak, mk, hn]; grind, fun i => by rw [av, mv, hn]; grind⟩
  · rename_i hm; exact absurd h hm
theorem own_q {t : TTerm} (h : in64T t) (hr : rt t = true) : Ok (ownT t) ∧ K (ownT t) = K t ∧ ∀ i, V (ownT t) i = V t i := by
  unfold ownT
  rw [if_pos hr]
  exact ⟨⟨trim_in h, trim_rt hr, trim_cn⟩, rfl, trim_V hr⟩
def Sm : Nat → (Nat → Rat) → Rat
  | 0, _ => 0
  | n + 1, f => Sm n f + f n
theorem Sm_congr {n : Nat} {f g : Nat → Rat} (h : ∀ i, i < n → f i = g i) : Sm n f = Sm n g := by
  induction n with
  | zero => rfl
  | succ n ih => unfold Sm; rw [ih fun i hi => h i (by omega), h n (by omega)]
theorem Sm_sub {n : Nat} {f g : Nat → Rat} {c : Rat} : Sm n (fun i => f i - c * g i) = Sm n f - c * Sm n g := by
  induction n with
  | zero => unfold Sm; grind
  | succ n ih => unfold Sm; rw [ih]; grind
theorem Sm_mul {n : Nat} {f : Nat → Rat} {c : Rat} : Sm n (fun i => f i * c) = Sm n f * c := by
  induction n with
  | zero => unfold Sm; grind
  | succ n ih => unfold Sm; rw [ih]; grind
theorem Sm_zero {n : Nat} {f : Nat → Rat} (h : ∀ i, i < n → f i = 0) : Sm n f = 0 := by
  induction n with
  | zero => rfl
  | succ n ih => unfold Sm; rw [ih fun i hi => h i (by omega), h n (by omega)]; grind
def ev (t : TTerm) (x : Nat → Rat) : Rat := K t + Sm 8 fun i => V t i * x i
theorem ev_less {a p t : TTerm} {c : Rat} {x : Nat → Rat} (hk : K t = K a - c * K p) (hv : ∀ i, V t i = V a i - c * V p i) : ev t x = ev a x - c * ev p x := by
  unfold ev
  rw [hk, Sm_congr (g := fun i => V a i * x i - c * (V p i * x i)) fun i _ => by rw [hv]; grind, Sm_sub]; grind
theorem ev_mul {a t : TTerm} {c : Rat} {x : Nat → Rat} (hk : K t = K a * c) (hv : ∀ i, V t i = V a i * c) : ev t x = ev a x * c := by
  unfold ev
  rw [hk, Sm_congr (g := fun i => V a i * x i * c) fun i _ => by rw [hv]; grind, Sm_mul]; grind
theorem ev_own {t : TTerm} {x : Nat → Rat} (h : in64T t) (hr : rt t = true) : ev (ownT t) x = ev t x := by
  obtain ⟨_, k, v⟩ := own_q h hr
  unfold ev
  rw [k, Sm_congr fun i _ => by rw [v]]
end Go.E
end
section
set_option linter.all false
set_option maxRecDepth 10000
namespace Go.E
open Go Go.Proofs Go.Eng
theorem take_q {rows r : List Row} {a v : Nat} (ha : a < rows.length) (hg : goodL rows) (hok : ∀ i, i < rows.length → Ok (rowAt rows i).f0) (e : takeP rows a v = some r) :
    ∃ p, V (rowAt rows a).f0 v ≠ 0 ∧ Ok p ∧ (K p = K (rowAt rows a).f0 * (V (rowAt rows a).f0 v)⁻¹ ∧ ∀ i, V p i = V (rowAt rows a).f0 i * (V (rowAt rows a).f0 v)⁻¹) ∧
      (rowAt r a).f0 = p ∧ ∀ i, i < rows.length → i ≠ a → Ok (rowAt r i).f0 ∧ K (rowAt r i).f0 = K (rowAt rows i).f0 - V (rowAt rows i).f0 v * K p ∧ ∀ j, V (rowAt r i).f0 j = V (rowAt rows i).f0 j - V (rowAt rows i).f0 v * V p j := by
  obtain ⟨hb, hbad, rfl⟩ := take_some e
  obtain ⟨p, hp⟩ : ∃ p, p = (pivT rows a v).1 := ⟨_, rfl⟩
  unfold pivB at hb
  simp only [Bool.and_eq_true, decide_eq_true_eq] at hb
  obtain ⟨h1, h2⟩ := hb
  obtain ⟨_, r1, nz, iq⟩ := divR_q (at_in (hg a) v) h1
  obtain ⟨_, pok, pk, pv⟩ := mulT_q h2
  have iq' : qv (invT rows a v).1 = (V (rowAt rows a).f0 v)⁻¹ := by
    show qv (divR ⟨1, 1⟩ _).1 = _
    rw [iq, qv_1]
    show 1 * (V (rowAt rows a).f0 v)⁻¹ = _
    grind
  refine ⟨p, nz, by rw [hp]; exact pok, ⟨by rw [hp, ← iq']; exact pk, fun i => by rw [hp, ← iq']; exact pv i⟩, ?_, fun i hi hne => ?_⟩
  · rw [row_mk ha]; unfold newR; rw [if_pos rfl, hp]
  · rw [row_mk hi]
    have hb := hbad i hi
    rw [← hp] at hb ⊢
    unfold newR
    rw [if_neg hne]
    by_cases hs : skip rows a v i = true
    · rw [if_pos hs]
      have hz : V (rowAt rows i).f0 v = 0 := by
        unfold skip at hs
        simp [hne] at hs
        exact (qv_zero (at_rr (hok i hi).r v)).1 hs
      rw [hz]
      exact ⟨hok i hi, by grind, fun j => by grind⟩
    · rw [if_neg hs]
      unfold badR at hb
      rw [Bool.not_eq_true] at hs
      rw [hs] at hb
      simp at hb
      exact lessT_q (at_in (hg i) v) (at_rr (hok i hi).r v) hb
structure Rf (rows : List Row) (v : Nat) : Prop where
  w : W rows v
  ok : ∀ i, i < rows.length → Ok (rowAt rows i).f0
  un : ∀ i, i < rows.length → key rows i = -1 → ∀ u, u < v → V (rowAt rows i).f0 u = 0
  pv : ∀ i (u : Nat), i < rows.length → key rows i = (u : Int) → V (rowAt rows i).f0 u = 1 ∧ (∀ w, w < u → V (rowAt rows i).f0 w = 0) ∧ ∀ j, j < rows.length → j ≠ i → V (rowAt rows j).f0 u = 0
def Sat (rows : List Row) (x : Nat → Rat) : Prop := ∀ i, i < rows.length → ev (rowAt rows i).f0 x = 0
theorem take_sat {rows r : List Row} {a v : Nat} {x : Nat → Rat} (h : Rf rows v) (ha : a < rows.length) (e : takeP rows a v = some r) : Sat r x ↔ Sat rows x := by
  obtain ⟨p, nz, pok, ⟨pk, pv⟩, pr, po⟩ := take_q ha h.w.g h.ok e
  have rl := (take_good h.w.g e).2
  have ep := ev_mul (x := x) pk pv
  have hz : ev p x = 0 ↔ ev (rowAt rows a).f0 x = 0 := by rw [ep]; grind
  constructor
  · intro hs i hi
    have hp : ev p x = 0 := by rw [← pr]; exact hs a (by omega)
    by_cases hne : i = a
    · subst hne; exact hz.1 hp
    · obtain ⟨_, k, w⟩ := po i hi hne
      have := ev_less (x := x) k w
      have h2 := hs i (by omega)
      rw [h2, hp] at this
      grind
  · intro hs i hi
    have hp : ev p x = 0 := hz.2 (hs a ha)
    by_cases hne : i = a
    · subst hne; rw [pr]; exact hp
    · obtain ⟨_, k, w⟩ := po i (by omega) hne
      rw [ev_less k w, hs i (by omega), hp]; grind
theorem take_Rf {rows r : List Row} {a v : Nat} (h : Rf rows v) (hp : pick rows v = some a) (e : takeP rows a v = some r) : Rf r (v + 1) := by
  obtain ⟨ha, hk, _⟩ := pick_some hp
  obtain ⟨p, nz, pok, ⟨pk, pv⟩, pr, po⟩ := take_q ha h.w.g h.ok e
  have rl := (take_good h.w.g e).2
  have p1 : V p v = 1 := by rw [pv]; grind
  have p0 : ∀ u, u < v → V p u = 0 := fun u hu => by rw [pv, h.un a ha hk u hu]; grind
  have kv : ∀ k, k < rows.length → key rows k ≠ (v : Int) := fun k hk => by
    rcases h.w.r k hk with h1 | ⟨u, h1, h2⟩ <;> omega
  refine ⟨step_W h.w (by unfold stepP; rw [hp]; exact e), fun i hi => ?_, fun i hi hki u hu => ?_, fun i u hi hki => ?_⟩
  · by_cases hne : i = a
    · subst hne; rw [pr]; exact pok
    · exact (po i (by omega) hne).1
  · rw [take_key e (by omega)] at hki
    have hne : i ≠ a := by intro hne; rw [if_pos hne] at hki; omega
    rw [if_neg hne] at hki
    obtain ⟨_, _, w⟩ := po i (by omega) hne
    rw [w]
    by_cases hu' : u = v
    · subst hu'; rw [p1]; grind
    · rw [h.un i (by omega) hki u (by omega), p0 u (by omega)]; grind
  · rw [take_key e (by omega)] at hki
    by_cases hne : i = a
    · subst hne
      rw [if_pos rfl] at hki
      obtain rfl : v = u := by omega
      rw [pr]
      refine ⟨p1, p0, fun j hj hji => ?_⟩
      obtain ⟨_, _, w⟩ := po j (by omega) hji
      rw [w, p1]; grind
    · rw [if_neg hne] at hki
      have huv : u < v := by
        rcases h.w.r i (by omega) with h1 | ⟨u', h1, h2⟩ <;> omega
      obtain ⟨h1, h2, h3⟩ := h.pv i u (by omega) hki
      obtain ⟨_, _, w⟩ := po i (by omega) hne
      refine ⟨by rw [w, h1, p0 u huv]; grind, fun x hx => by rw [w, h2 x hx, p0 x (by omega)]; grind, fun j hj hji => ?_⟩
      by_cases hja : j = a
      · subst hja; rw [pr]; exact p0 u huv
      · obtain ⟨_, _, w'⟩ := po j (by omega) hja
        rw [w', h3 j (by omega) hji, p0 u huv]; grind
theorem step_Rf {rows r : List Row} {v : Nat} (h : Rf rows v) (e : stepP rows v = some r) : Rf r (v + 1) ∧ ∀ x, Sat r x ↔ Sat rows x := by
  cases hp : pick rows v with
  | none =>
    have e0 := e
    unfold stepP at e
    rw [hp] at e
    cases e
    refine ⟨⟨step_W h.w e0, h.ok, fun i hi hk u hu => ?_, h.pv⟩, fun x => Iff.rfl⟩
    by_cases hu' : u = v
    · subst hu'
      have := fst_none.1 hp i hi
      unfold hit at this
      unfold key at hk
      rw [decide_eq_true hk] at this
      simp at this
      exact (qv_zero (at_rr (h.ok i hi).r u)).1 this
    · exact h.un i hi hk u (by omega)
  | some a =>
    have e0 := e
    unfold stepP at e
    rw [hp] at e
    exact ⟨take_Rf h hp e, fun x => take_sat h (pick_some hp).1 e⟩
theorem run_Rf : ∀ (k i : Nat) (rows r : List Row), Rf rows i → runF rows (List.range' i k) = some r → Rf r (i + k) ∧ ∀ x, Sat r x ↔ Sat rows x := by
  intro k
  induction k with
  | zero => intro i rows r h e; cases e; exact ⟨h, fun x => Iff.rfl⟩
  | succ k ih =>
    intro i rows r h e
    rw [List.range'_succ] at e
    unfold runF at e
    cases hs : stepP rows i with
    | none => rw [hs] at e; cases e
    | some r1 =>
      rw [hs] at e
      obtain ⟨s1, s2⟩ := step_Rf h hs
      obtain ⟨h1, h2⟩ := ih (i + 1) r1 r s1 e
      exact ⟨by rw [show i + (k + 1) = i + 1 + k by omega]; exact h1, fun x => (h2 x).trans (s2 x)⟩
theorem start_Rf {l : List TTerm} (h : inL l) (hr : ∀ t ∈ l, rt t = true) : Rf (startL l) 0 ∧ ∀ x, Sat (startL l) x ↔ ∀ t ∈ l, ev t x = 0 := by
  have sl : (startL l).length = l.length := mk_len
  have hw := start_W h
  have rw0 : ∀ i, i < l.length → rowAt (startL l) i = ⟨ownT (tAt l i), -1⟩ := fun i hi => by unfold startL; rw [row_mk hi]
  have ht : ∀ i, i < l.length → tAt l i ∈ l := fun i hi => by rw [← t_of hi]; exact List.getElem_mem hi
  refine ⟨⟨hw, fun i hi => ?_, fun i hi hk u hu => by omega, fun i u hi hk => ?_⟩, fun x => ⟨fun hs t htl => ?_, fun hs i hi => ?_⟩⟩
  · rw [sl] at hi
    rw [rw0 i hi]
    exact (own_q (t_in h i) (hr _ (ht i hi))).1
  · rcases hw.r i hi with h1 | ⟨u', h1, h2⟩ <;> omega
  · obtain ⟨i, hi, rfl⟩ := List.getElem_of_mem htl
    have := hs i (by omega)
    rw [rw0 i hi, ev_own (t_in h i) (hr _ (ht i hi))] at this
    rw [t_of hi]; exact this
  · rw [sl] at hi
    rw [rw0 i hi, ev_own (t_in h i) (hr _ (ht i hi))]
    exact hs _ (ht i hi)
structure Red (U : List Row) : Prop where
  asc : U.Pairwise fun a b => a.f1 < b.f1
  ok : ∀ r ∈ U, Ok r.f0
  pv : ∀ r ∈ U, ∃ u : Nat, u < 8 ∧ r.f1 = (u : Int) ∧ V r.f0 u = 1 ∧ (∀ w, w < u → V r.f0 w = 0) ∧ ∀ s ∈ U, s.f1 ≠ r.f1 → V s.f0 u = 0
theorem used_Red {r : List Row} (h : Rf r 8) : Red (usedR r) := by
  refine ⟨used_asc, fun x hx => ?_, fun x hx => ?_⟩
  · unfold usedR at hx
    obtain ⟨p, hp, rfl⟩ := List.mem_map.1 hx
    exact h.ok _ (pair_mem hp).1
  · unfold usedR at hx
    obtain ⟨p, hp, rfl⟩ := List.mem_map.1 hx
    obtain ⟨p1, p2, p3⟩ := pair_mem hp
    obtain ⟨h1, h2, h3⟩ := h.pv _ _ p1 p3
    refine ⟨p.2, p2, p3, h1, h2, fun s hs hne => ?_⟩
    unfold usedR at hs
    obtain ⟨q, hq, rfl⟩ := List.mem_map.1 hs
    exact h3 _ (pair_mem hq).1 fun e => hne (by rw [e])
theorem sol_sem {l : List TTerm} (h : inL l) : ((solP l).2.2 = 2) ∨ ((∀ t ∈ l, rt t = true) ∧ (((solP l).2.2 = 1 ∧ (solP l).1 = [] ∧ (solP l).2.1 = [] ∧ ∀ x, ¬ ∀ t ∈ l, ev t x = 0) ∨
    ∃ r, W r 8 ∧ solP l = ((usedR r).map (fun x => x.f0), (usedR r).map (fun x => x.f1), 0) ∧ Red (usedR r) ∧ ∀ x, (∀ t ∈ l, ev t x = 0) ↔ ∀ s ∈ usedR r, ev s.f0 x = 0)) := by
  unfold solP
  cases hb : l.any (fun t => !rt t) with
  | true => exact .inl rfl
  | false =>
    have hr : ∀ t ∈ l, rt t = true := fun t ht => by
      have := List.any_eq_false.1 hb t ht
      simpa using this
    obtain ⟨s0, s1⟩ := start_Rf h hr
    rw [if_neg (by decide)]
    cases hq : runF (startL l) (List.range 8) with
    | none => exact .inl rfl
    | some r =>
      right
      refine ⟨hr, ?_⟩
      rw [List.range_eq_range'] at hq
      obtain ⟨f, fs⟩ := run_Rf 8 0 _ _ s0 hq
      have f : Rf r 8 := by simpa using f
      dsimp only
      unfold endP
      cases hc : r.any badC with
      | true =>
        left
        refine ⟨rfl, rfl, rfl, fun x hx => ?_⟩
        obtain ⟨y, hy, hyb⟩ := List.any_eq_true.1 hc
        obtain ⟨i, hi, rfl⟩ := List.getElem_of_mem hy
        rw [row_of hi] at hyb
        unfold badC at hyb
        simp at hyb
        have h1 := (fs x).2 ((s1 x).2 hx) i hi
        unfold ev at h1
        rw [Sm_zero fun j hj => by rw [f.un i hi hyb.1 j hj]; grind] at h1
        have ho := (f.ok i hi).r
        unfold rt at ho
        simp only [Bool.and_eq_true] at ho
        have : K (rowAt r i).f0 = 0 := by grind
        exact hyb.2 ((qv_zero ho.1.2).2 this)
      | false =>
        right
        refine ⟨r, f.w, rfl, used_Red f, fun x => ?_⟩
        rw [← s1 x, ← fs x]
        constructor
        · intro hs s hsu
          have := ((used_mem f.w s).1 hsu).1
          obtain ⟨i, hi, rfl⟩ := List.getElem_of_mem this
          rw [row_of hi]; exact hs i hi
        · intro hs i hi
          by_cases hk : key r i = -1
          · unfold ev
            rw [Sm_zero fun j hj => by rw [f.un i hi hk j hj]; grind]
            have := List.any_eq_false.1 hc _ (List.getElem_mem hi)
            rw [row_of hi] at this
            unfold badC at this
            unfold key at hk
            rw [decide_eq_true hk] at this
            simp at this
            have ho := (f.ok i hi).r
            unfold rt at ho
            simp only [Bool.and_eq_true] at ho
            have := (qv_zero ho.1.2).1 this
            show K (rowAt r i).f0 + 0 = 0
            unfold K; rw [this]; grind
          · exact hs _ ((used_mem f.w _).2 ⟨by rw [← row_of hi]; exact List.getElem_mem hi, hk⟩)
end Go.E
end
section
set_option linter.all false
set_option maxRecDepth 10000
namespace Go.E
open Go Go.Proofs Go.Eng
def piv (U : List Row) (w : Nat) : Option Row := U.find? fun r => decide (r.f1 = (w : Int))
end Go.E
end
section
set_option linter.all false
set_option maxRecDepth 10000
namespace Go.E
open Go Go.Proofs Go.Eng
def cmpR (a b : TRat) : Int := if rr a && rr b then (if qv a < qv b then -1 else if qv a = qv b then 0 else 1) else 0
theorem q_lt {a b c d : Int} (h : BallQ.Right a b) (ha : BallQ.In64 a) (hb : BallQ.In64 b) (k : BallQ.Right c d) (hc : BallQ.In64 c) (hd : BallQ.In64 d) : BallQ.q a b < BallQ.q c d ↔ a * d < c * b := by
  obtain ⟨h0, h1, _⟩ := BallQ.q_right h ha hb
  obtain ⟨k0, k1, _⟩ := BallQ.q_right k hc hd
  rw [Rat.lt_iff, h0, h1, k0, k1]
theorem eqR_ne {a b : TRat} (h : a ≠ b) : eqTRat a b = false := by
  cases a; cases b
  unfold eqTRat
  rw [Bool.eq_false_iff]
  intro e
  simp only [Bool.and_eq_true, decide_eq_true_eq] at e
  exact h (by rw [e.1, e.2])
theorem cmpE {a b : TRat} (ha : in64R a) (hb : in64R b) : m_rat_Compare a b = some (cmpR a b) := by
  unfold m_rat_Compare cmpR
  rw [rR ha]
  simp only [some_bind']
  cases h1 : rr a with
  | false => rfl
  | true =>
    rw [rR hb]
    simp only [some_bind']
    cases h2 : rr b with
    | false => rfl
    | true =>
      simp only [Bool.not_true, ifB_false, Bool.and_self, if_true]
      by_cases e : a = b
      · subst e
        rw [eqR_self, if_neg (Rat.lt_irrefl), if_pos rfl]; rfl
      · rw [eqR_ne e]
        have ra := rr_right h1
        have rb := rr_right h2
        have hw : IntKind.wrap .i64 (0 - b.f0) = -b.f0 := by
          obtain ⟨⟨n1, n2⟩, _⟩ := hb
          have := rb.2.1
          rw [wrap_i64 (by omega) (by omega)]; omega
        have i1 : BallQ.In64 (-b.f0) := by
          obtain ⟨⟨n1, n2⟩, _⟩ := hb
          have := rb.2.1
          constructor <;> omega
        have l1 : qv a < qv b ↔ a.f0 * b.f1 < b.f0 * a.f1 := q_lt ra ha.1 ha.2 rb hb.1 hb.2
        have l2 : qv b < qv a ↔ b.f0 * a.f1 < a.f0 * b.f1 := q_lt rb hb.1 hb.2 ra ha.1 ha.2
        have hne : qv a ≠ qv b := fun h => e (qv_inj ha hb h1 h2 h)
        have hval : a.f0 * b.f1 + -b.f0 * a.f1 = a.f0 * b.f1 - b.f0 * a.f1 := by rw [Int.neg_mul]; omega
        have h0 : a.f0 * b.f1 + -b.f0 * a.f1 ≠ 0 := by
          rw [hval]
          intro h
          by_cases h1 : qv a < qv b
          · rw [l1] at h1; omega
          · by_cases h2 : qv b < qv a
            · rw [l2] at h2; omega
            · exact hne (Rat.le_antisymm (Rat.not_lt.1 h2) (Rat.not_lt.1 h1))
        unfold m_rat_sum
        rw [hw, rq_true (decide_eq_true ⟨ha.1, hb.2, i1, ha.2, h0⟩)]
        simp only [some_bind', ifB_false]
        by_cases hlt : qv a < qv b
        · rw [if_pos hlt, decide_eq_true (by rw [hval]; rw [l1] at hlt; omega)]; rfl
        · rw [if_neg hlt, if_neg hne, decide_eq_false (by rw [hval]; rw [l1] at hlt; omega)]; rfl
def subR (a b : TRat) : TRat × Int := if rr b then addR a (neg b) else (⟨0, 0⟩, 2)
theorem subE {a b : TRat} (ha : in64R a) (hb : in64R b) : m_rat_Sub a b = some (subR a b) := by
  unfold m_rat_Sub subR m_rat_minus
  rw [rR hb]
  cases rr b with
  | false => rfl
  | true =>
    have := aR ha (neg_in hb)
    unfold neg at this
    simp only [some_bind', Bool.not_true, ifB_false, this]
    rfl
theorem sub_good (a b : TRat) : in64R (subR a b).1 ∧ ((subR a b).2 = 0 → rr (subR a b).1 = true) := by
  unfold subR
  split
  · exact add_good _ _
  · exact ⟨z64, fun e => by cases e⟩
def valL : List TRat → List TRat → TRat → TRat × Int
  | c :: cs, a :: xs, s => if (mulR c a).2 = 0 then (if (addR s (mulR c a).1).2 = 0 then valL cs xs (addR s (mulR c a).1).1 else (⟨0, 0⟩, (addR s (mulR c a).1).2)) else (⟨0, 0⟩, (mulR c a).2)
  | [], _, s => (s, 0)
  | _ :: _, [], s => (s, 0)
def valT (t : TTerm) (at' : List TRat) : TRat × Int := if rt t && (at'.take 8).all rr then valL t.f0 (at'.take 8) t.f1 else (⟨0, 0⟩, 2)
theorem valL_nil {cs : List TRat} {s : TRat} : valL cs [] s = (s, 0) := by cases cs <;> rfl
theorem valL_in : ∀ (cs xs : List TRat) (s : TRat), in64R s → in64R (valL cs xs s).1
  | [], _, s, h => by cases ‹List TRat› <;> exact h
  | c :: cs, [], s, h => h
  | c :: cs, a :: xs, s, h => by
    unfold valL
    split
    · split
      · exact valL_in cs xs _ (add_good _ _).1
      · exact z64
    · exact z64
theorem valT_in {t : TTerm} {l : List TRat} (h : in64T t) : in64R (valT t l).1 := by
  unfold valT
  split
  · exact valL_in _ _ _ h.k
  · exact z64
theorem valE {t : TTerm} {l : List TRat} (ht : in64T t) (hl : ∀ r ∈ l, in64R r) (hn : l.length ≤ 1000) : m_term_Value t l = some (valT t l) := by
  unfold m_term_Value valT
  have e1 : (if 8 < (l.length : Int) then (8 : Int) else (l.length : Int)) = ((min 8 l.length : Nat) : Int) := by split <;> omega
  have ek : l.take (min 8 l.length) = l.take 8 := by
    by_cases h : l.length ≤ 8
    · rw [Nat.min_eq_right h, List.take_of_length_le h, List.take_length]
    · rw [Nat.min_eq_left (by omega)]
  rw [e1, subL_take (Nat.min_le_right _ _), ek]
  simp only [some_bind']
  rw [tR ht]
  have kin : ∀ r ∈ l.take 8, in64R r := fun r hr => hl r (List.mem_of_mem_take hr)
  have klen : (l.take 8).length ≤ 8 := by simp; omega
  generalize l.take 8 = k at kin klen ⊢
  have hk : m_term_Right ⟨k, ⟨0, 1⟩⟩ = some (k.all rr) := by
    rw [tR ⟨n64, kin, by dsimp only; omega⟩]
    unfold rt
    dsimp only
    rw [decide_eq_true klen, nR]; simp
  unfold m_term_nought
  cases hr : rt t with
  | false => rfl
  | true =>
    simp only [some_bind', Bool.not_true, ifB_false, hk]
    cases hkr : k.all rr with
    | false => rfl
    | true =>
      simp only [Bool.not_true, ifB_false, Bool.and_self, if_true]
      have e2 : (if (k.length : Int) < (t.f0.length : Int) then (k.length : Int) else (t.f0.length : Int)) = ((min k.length t.f0.length : Nat) : Int) := by split <;> omega
      rw [e2, subL_take (Nat.min_le_right _ _)]
      simp only [some_bind']
      have lt := rt_len hr
      obtain ⟨n, hn'⟩ : ∃ n, n = min k.length t.f0.length := ⟨_, rfl⟩
      rw [← hn']
      have tl : (t.f0.take n).length = n := by rw [List.length_take]; omega
      have main : ∀ (j i : Nat) (s : TRat), i + j = n → in64R s → loopO (m_term_Value_L0 (t.f0.take n) k) ((i : Int), s.f0, s.f1) = some (if (valL (t.f0.drop i) (k.drop i) s).2 = 0 then .inl ((valL (t.f0.drop i) (k.drop i) s).1.f0, (valL (t.f0.drop i) (k.drop i) s).1.f1) else .inr (⟨0, 0⟩, (valL (t.f0.drop i) (k.drop i) s).2)) := by
        intro j
        induction j with
        | zero =>
          intro i s hi hs
          have : valL (t.f0.drop i) (k.drop i) s = (s, 0) := by
            by_cases h : i < t.f0.length
            · rw [List.drop_of_length_le (l := k) (by omega), valL_nil]
            · rw [List.drop_of_length_le (l := t.f0) (by omega)]; rfl
          rw [this]
          refine loopO_inr ?_
          unfold m_term_Value_L0
          dsimp only
          rw [tl, decide_eq_false (by omega)]; rfl
        | succ j ih =>
          intro i s hi hs
          have h1 : i < t.f0.length := by omega
          have h2 : i < k.length := by omega
          have g1 : gi (t.f0.take n) (i : Int) = some t.f0[i] := by rw [gi_of (by omega), List.getElem_take]
          rw [List.drop_eq_getElem_cons h1, List.drop_eq_getElem_cons h2]
          have b : m_term_Value_L0 (t.f0.take n) k ((i : Int), s.f0, s.f1) = if (mulR t.f0[i] k[i]).2 = 0 then (if (addR s (mulR t.f0[i] k[i]).1).2 = 0 then some (.inl (((i + 1 : Nat) : Int), (addR s (mulR t.f0[i] k[i]).1).1.f0, (addR s (mulR t.f0[i] k[i]).1).1.f1)) else some (.inr (.inr (⟨0, 0⟩, (addR s (mulR t.f0[i] k[i]).1).2)))) else some (.inr (.inr (⟨0, 0⟩, (mulR t.f0[i] k[i]).2))) := by
            unfold m_term_Value_L0
            dsimp only
            rw [tl, decide_eq_true (show (i : Int) < (n : Int) by omega), ifB_true, g1, gi_of h2]
            simp only [some_bind', mR (ht.c _ (List.getElem_mem h1)) (kin _ (List.getElem_mem h2))]
            by_cases c1 : (mulR t.f0[i] k[i]).2 = 0
            · rw [if_pos c1, decide_eq_true c1]
              have := aR (a := ⟨s.f0, s.f1⟩) hs (mul_good t.f0[i] k[i]).1
              simp only [Bool.not_true, ifB_false, this, some_bind']
              by_cases c2 : (addR s (mulR t.f0[i] k[i]).1).2 = 0
              · rw [if_pos c2]
                rw [decide_eq_true c2, wrap_succ (by omega)]; rfl
              · rw [if_neg c2]
                rw [decide_eq_false c2]; rfl
            · rw [if_neg c1, decide_eq_false c1]; rfl
          unfold valL
          by_cases c1 : (mulR t.f0[i] k[i]).2 = 0
          · rw [if_pos c1] at b ⊢
            by_cases c2 : (addR s (mulR t.f0[i] k[i]).1).2 = 0
            · rw [if_pos c2] at b ⊢
              rw [loopO_inl b]
              exact ih (i + 1) _ (by omega) (add_good _ _).1
            · rw [if_neg c2] at b ⊢
              rw [loopO_inr b, if_neg c2]
          · rw [if_neg c1] at b ⊢
            rw [loopO_inr b, if_neg c1]
      have := main n 0 t.f1 (by omega) ht.k
      rw [List.drop_zero, List.drop_zero] at this
      rw [show ((0 : Int)) = ((0 : Nat) : Int) from rfl, this]
      have sz : ∀ cs xs s, (valL cs xs s).2 ≠ 0 → (valL cs xs s).1 = ⟨0, 0⟩ := by
        intro cs
        induction cs with
        | nil => intro xs s h; exact absurd rfl h
        | cons c cs ih =>
          intro xs s h
          cases xs with
          | nil => exact absurd rfl h
          | cons a xs =>
            unfold valL at h ⊢
            split
            · rename_i c1
              rw [if_pos c1] at h
              split
              · rename_i c2
                rw [if_pos c2] at h
                exact ih _ _ h
              · rfl
            · rfl
      by_cases hz : (valL t.f0 k t.f1).2 = 0
      · rw [if_pos hz]
        simp only [some_bind']
        show some (_, (0 : Int)) = _
        rw [← hz]
      · rw [if_neg hz]
        simp only [some_bind']
        rw [← sz _ _ _ hz]
end Go.E
end
section
set_option linter.all false
set_option maxRecDepth 10000
namespace Go.E
open Go Go.Proofs Go.Eng
theorem termE {o : Bool} {t : TTerm} {e : Int} : m_bound_engine_term ⟨o⟩ t e = some (t, ⟨o || !decide (e = 0)⟩) := by
  unfold m_bound_engine_term
  cases o <;> rfl
theorem ratE {o : Bool} {t : TRat} {e : Int} : m_bound_engine_rat ⟨o⟩ t e = some (t, ⟨o || !decide (e = 0)⟩) := by
  unfold m_bound_engine_rat
  cases o <;> rfl
def plainT : TTerm → List Row → Option TTerm
  | t, [] => some t
  | t, r :: U => if (atT t r.f1.toNat).f0 = 0 then plainT t U else if (lessT t r.f0 (atT t r.f1.toNat)).2 = 0 then plainT (lessT t r.f0 (atT t r.f1.toNat)).1 U else none
structure GoodU (U : List Row) : Prop where
  t : ∀ r ∈ U, in64T r.f0
  v : ∀ r ∈ U, 0 ≤ r.f1 ∧ r.f1 < 8
  l : U.length ≤ 8
theorem plain_over {U : List Row} (hU : GoodU U) : ∀ (k i : Nat) (t : TTerm), i + k = U.length → loopO (m_bound_engine_plain_L0 (U.map fun x => x.f0) (U.map fun x => x.f1)) ((i : Int), true, t.f0, t.f1.f0, t.f1.f1) = some (true, t.f0, t.f1.f0, t.f1.f1) := by
  intro k
  induction k with
  | zero =>
    intro i t hi
    refine loopO_inr ?_
    unfold m_bound_engine_plain_L0
    dsimp only
    rw [List.length_map, decide_eq_false (by omega)]; rfl
  | succ k ih =>
    intro i t hi
    have hlt : i < U.length := by omega
    have hl := hU.l
    have hv := hU.v _ (List.getElem_mem hlt)
    have hb : m_bound_engine_plain_L0 (U.map fun x => x.f0) (U.map fun x => x.f1) ((i : Int), true, t.f0, t.f1.f0, t.f1.f1) = some (.inl (((i + 1 : Nat) : Int), true, t.f0, t.f1.f0, t.f1.f1)) := by
      unfold m_bound_engine_plain_L0
      dsimp only
      rw [List.length_map, decide_eq_true (show (i : Int) < (U.length : Int) by omega), ifB_true, gi_of (by rw [List.length_map]; exact hlt), gi_of (by rw [List.length_map]; exact hlt), List.getElem_map, List.getElem_map]
      have e : U[i].f1 = ((U[i].f1.toNat : Nat) : Int) := by omega
      simp only [some_bind']
      rw [e, atP, wrap_succ (by omega)]
      simp only [some_bind']
      cases decide ((atT ⟨t.f0, ⟨t.f1.f0, t.f1.f1⟩⟩ U[i].f1.toNat).f0 = 0) <;> rfl
    rw [loopO_inl hb]
    exact ih (i + 1) t (by omega)
theorem plain_loop {U : List Row} (hU : GoodU U) : ∀ (k i : Nat) (t : TTerm), i + k = U.length → in64T t → ∃ b t', loopO (m_bound_engine_plain_L0 (U.map fun x => x.f0) (U.map fun x => x.f1)) ((i : Int), false, t.f0, t.f1.f0, t.f1.f1) = some (b, t'.f0, t'.f1.f0, t'.f1.f1) ∧ in64T t' ∧
    (match plainT t (U.drop i) with | some t1 => b = false ∧ t' = t1 | none => b = true) := by
  intro k
  induction k with
  | zero =>
    intro i t hi ht
    refine ⟨false, t, ?_, ht, ?_⟩
    · refine loopO_inr ?_
      unfold m_bound_engine_plain_L0
      dsimp only
      rw [List.length_map, decide_eq_false (by omega)]; rfl
    · rw [List.drop_of_length_le (by omega)]
      exact ⟨rfl, rfl⟩
  | succ k ih =>
    intro i t hi ht
    have hlt : i < U.length := by omega
    have hl := hU.l
    have hv := hU.v _ (List.getElem_mem hlt)
    have e : U[i].f1 = ((U[i].f1.toNat : Nat) : Int) := by omega
    rw [List.drop_eq_getElem_cons hlt]
    have hin : in64T U[i].f0 := hU.t _ (List.getElem_mem hlt)
    have hc : in64R (atT t U[i].f1.toNat) := at_in ht _
    have hb : m_bound_engine_plain_L0 (U.map fun x => x.f0) (U.map fun x => x.f1) ((i : Int), false, t.f0, t.f1.f0, t.f1.f1) =
        if (atT t U[i].f1.toNat).f0 = 0 then some (.inl (((i + 1 : Nat) : Int), false, t.f0, t.f1.f0, t.f1.f1))
        else if (mulT U[i].f0 (neg (atT t U[i].f1.toNat))).2 = 0 then some (.inl (((i + 1 : Nat) : Int), !decide ((lessT t U[i].f0 (atT t U[i].f1.toNat)).2 = 0), (lessT t U[i].f0 (atT t U[i].f1.toNat)).1.f0, (lessT t U[i].f0 (atT t U[i].f1.toNat)).1.f1.f0, (lessT t U[i].f0 (atT t U[i].f1.toNat)).1.f1.f1))
        else some (.inl (((i + 1 : Nat) : Int), true, t.f0, t.f1.f0, t.f1.f1)) := by
      unfold m_bound_engine_plain_L0
      dsimp only
      rw [List.length_map, decide_eq_true (show (i : Int) < (U.length : Int) by omega), ifB_true, gi_of (by rw [List.length_map]; exact hlt), gi_of (by rw [List.length_map]; exact hlt), List.getElem_map, List.getElem_map]
      simp only [some_bind']
      rw [e, Int.toNat_natCast, atP, wrap_succ (by omega)]
      simp only [some_bind']
      have et : (⟨t.f0, ⟨t.f1.f0, t.f1.f1⟩⟩ : TTerm) = t := rfl
      rw [et]
      by_cases hz : (atT t U[i].f1.toNat).f0 = 0
      · rw [if_pos hz, decide_eq_true hz]; rfl
      · rw [if_neg hz, decide_eq_false hz]
        have hs := scaleP hin (neg_in hc)
        unfold neg at hs
        simp only [Bool.not_false, ifB_true, some_bind', hs, termE, Bool.false_or]
        by_cases hm : (mulT U[i].f0 (neg (atT t U[i].f1.toNat))).2 = 0
        · have hm' := hm
          unfold neg at hm'
          rw [if_pos hm, decide_eq_true hm']
          have ha := addP (b := (mulT U[i].f0 (neg (atT t U[i].f1.toNat))).1) ht mulT_good.1
          unfold neg at ha
          simp only [Bool.not_true, Bool.not_false, ifB_true, some_bind', ha, termE, Bool.false_or]
          unfold lessT
          rw [if_pos hm]
          unfold neg
          rfl
        · have hm' := hm
          unfold neg at hm'
          rw [if_neg hm, decide_eq_false hm']
          rfl
    unfold plainT
    by_cases hz : (atT t U[i].f1.toNat).f0 = 0
    · rw [if_pos hz] at hb ⊢
      rw [loopO_inl hb]
      exact ih (i + 1) t (by omega) ht
    · rw [if_neg hz] at hb ⊢
      by_cases hm : (mulT U[i].f0 (neg (atT t U[i].f1.toNat))).2 = 0
      · rw [if_pos hm] at hb
        rw [loopO_inl hb]
        by_cases hq : (lessT t U[i].f0 (atT t U[i].f1.toNat)).2 = 0
        · rw [if_pos hq, decide_eq_true hq]
          exact ih (i + 1) _ (by omega) lessT_in
        · rw [if_neg hq, decide_eq_false hq]
          exact ⟨true, _, plain_over hU k (i + 1) _ (by omega), lessT_in, rfl⟩
      · rw [if_neg hm] at hb
        have hq : ¬ (lessT t U[i].f0 (atT t U[i].f1.toNat)).2 = 0 := by unfold lessT; rw [if_neg hm]; exact hm
        rw [loopO_inl hb, if_neg hq]
        exact ⟨true, t, plain_over hU k (i + 1) t (by omega), ht, rfl⟩
theorem plainE {U : List Row} (hU : GoodU U) {r : TRow} (hr : in64T r.f1) (o : Bool) : ∃ b t', m_bound_engine_plain ⟨o⟩ r (U.map fun x => x.f0) (U.map fun x => x.f1) = some (⟨r.f0, t'⟩, ⟨b⟩) ∧ in64T t' ∧ (o = true → b = true) ∧
    (o = false → match plainT r.f1 U with | some t1 => b = false ∧ t' = t1 | none => b = true) := by
  unfold m_bound_engine_plain
  cases o with
  | true =>
    have := plain_over hU U.length 0 r.f1 (by omega)
    dsimp only
    rw [show ((0 : Int)) = ((0 : Nat) : Int) from rfl, this]
    exact ⟨true, r.f1, rfl, hr, fun _ => rfl, (fun h => by cases h)⟩
  | false =>
    obtain ⟨b, t', h1, h2, h3⟩ := plain_loop hU U.length 0 r.f1 (by omega) hr
    dsimp only
    rw [show ((0 : Int)) = ((0 : Nat) : Int) from rfl, h1]
    exact ⟨b, t', rfl, h2, (fun h => by cases h), fun _ => h3⟩
def absR (c : TRat) : TRat := ⟨if c.f0 < 0 then IntKind.wrap .i64 (0 - c.f0) else c.f0, c.f1⟩
theorem abs_in {c : TRat} (h : in64R c) : in64R (absR c) := by
  refine ⟨?_, h.2⟩
  unfold absR
  dsimp only
  split
  · constructor <;> (rw [IntKind.wrap_i64]; omega)
  · exact h.1
def divT (t : TTerm) (c : TRat) : TTerm × Int := if (divR ⟨1, 1⟩ (absR c)).2 = 0 then mulT t (divR ⟨1, 1⟩ (absR c)).1 else (zT, (divR ⟨1, 1⟩ (absR c)).2)
theorem divT_in {t : TTerm} {c : TRat} : in64T (divT t c).1 := by
  unfold divT
  split
  · exact mulT_good.1
  · exact z_in
theorem one64 : in64R ⟨1, 1⟩ := by decide
theorem divideE {r : TRow} {c : TRat} (hr : in64T r.f1) (hc : in64R c) (o : Bool) : ∃ b t', m_bound_engine_divide ⟨o⟩ r c = some (⟨r.f0, t'⟩, ⟨b⟩) ∧ in64T t' ∧ (o = true → b = true) ∧ (o = false → if (divT r.f1 c).2 = 0 then b = false ∧ t' = (divT r.f1 c).1 else b = true) := by
  unfold m_bound_engine_divide
  have e : (ifB (decide (c.f0 < 0)) (some (IntKind.wrap .i64 (0 - c.f0))) (some c.f0) : Option Int) = some (absR c).f0 := by
    unfold absR
    dsimp only
    by_cases h : c.f0 < 0
    · rw [decide_eq_true h, if_pos h]; rfl
    · rw [decide_eq_false h, if_neg h]; rfl
  rw [e]
  simp only [some_bind']
  have e2 : (⟨(absR c).f0, c.f1⟩ : TRat) = absR c := rfl
  rw [e2, dR one64 (abs_in hc)]
  simp only [some_bind', ratE]
  have hd := div_good ⟨1, 1⟩ (absR c)
  cases o with
  | true => exact ⟨true, r.f1, rfl, hr, fun _ => rfl, (fun h => by cases h)⟩
  | false =>
    by_cases h1 : (divR ⟨1, 1⟩ (absR c)).2 = 0
    · rw [decide_eq_true h1]
      simp only [Bool.not_true, Bool.not_false, Bool.or_self, ifB_true, scaleP hr hd.1, some_bind', termE, Bool.false_or]
      refine ⟨_, _, rfl, mulT_good.1, (fun h => by cases h), fun _ => ?_⟩
      unfold divT
      rw [if_pos h1]
      split
      · rename_i h2; rw [decide_eq_true h2]; exact ⟨rfl, rfl⟩
      · rename_i h2; rw [decide_eq_false h2]; rfl
    · rw [decide_eq_false h1]
      refine ⟨true, r.f1, rfl, hr, fun _ => rfl, fun _ => ?_⟩
      unfold divT
      rw [if_neg h1, if_neg h1]
end Go.E
end
section
set_option linter.all false
set_option maxRecDepth 10000
namespace Go.E
open Go Go.Proofs Go.Eng
def inW (l : List TRow) : Prop := ∀ r ∈ l, in64T r.f1
def cOf (v : Nat) (r : TRow) : TRat := atT r.f1 v
def isLow (v : Nat) (r : TRow) : Bool := decide (0 < (cOf v r).f0)
def isUp (v : Nat) (r : TRow) : Bool := decide ((cOf v r).f0 < 0)
def isNone (v : Nat) (r : TRow) : Bool := decide ((cOf v r).f0 = 0)
def divW (v : Nat) (r : TRow) : TRow := ⟨r.f0, (divT r.f1 (cOf v r)).1⟩
def okW (v : Nat) (r : TRow) : Bool := isNone v r || decide ((divT r.f1 (cOf v r)).2 = 0)
def lowW (v : Nat) (l : List TRow) : List TRow := (l.filter (isLow v)).map (divW v)
def upW (v : Nat) (l : List TRow) : List TRow := (l.filter (isUp v)).map (divW v)
def nxW (v : Nat) (l : List TRow) : List TRow := l.filter (isNone v)
theorem filter_snoc {α : Type} {p : α → Bool} {l : List α} {x : α} : (l ++ [x]).filter p = if p x then l.filter p ++ [x] else l.filter p := by
  rw [List.filter_append]
  cases h : p x <;> simp [h]
theorem take_snoc {α : Type} {l : List α} {i : Nat} (h : i < l.length) : l.take (i + 1) = l.take i ++ [l[i]] := by
  rw [List.take_succ, List.getElem?_eq_getElem h]; rfl
structure D0 (rows : List TRow) (v i : Nat) (s : List TRow × Int × Bool × List TRow × List TRow) : Prop where
  at_ : s.2.1 = (i : Int)
  n : s.1.length + s.2.2.2.1.length + s.2.2.2.2.length = i
  a : inW s.1
  b : inW s.2.2.2.1
  c : inW s.2.2.2.2
  f : s.2.2.1 = false → (rows.take i).all (okW v) = true ∧ s.1 = nxW v (rows.take i) ∧ s.2.2.2.1 = lowW v (rows.take i) ∧ s.2.2.2.2 = upW v (rows.take i)
  t : s.2.2.1 = true → (rows.take i).all (okW v) = false
theorem inW_snoc {l : List TRow} {r : TRow} (h : inW l) (hr : in64T r.f1) : inW (l ++ [r]) := fun x hx => by
  rcases List.mem_append.1 hx with hx | hx
  · exact h x hx
  · rw [List.mem_singleton] at hx; subst hx; exact hr
theorem drop_loop0 {rows : List TRow} {v : Nat} (hr : inW rows) (hl : rows.length ≤ 400) : ∃ s, loopO (m_bound_engine_drop_L0 rows (v : Int)) ([], 0, false, [], []) = some s ∧ D0 rows v rows.length (s.1, (rows.length : Int), s.2.1, s.2.2.1, s.2.2.2) := by
  refine loopO_count rows.length (fun i s => D0 rows v i s) _ ?_ ?_ ⟨rfl, rfl, (fun _ h => by cases h), (fun _ h => by cases h), (fun _ h => by cases h), (fun _ => ⟨rfl, rfl, rfl, rfl⟩), (fun h => by cases h)⟩
  · rintro i ⟨nx, _, o, lo, up⟩ hi ⟨rfl, hn, ha, hb, hc, hf, ht⟩
    left
    dsimp only at hn ha hb hc hf ht
    have hin := hr _ (List.getElem_mem hi)
    have hcin : in64R (cOf v rows[i]) := at_in hin v
    unfold m_bound_engine_drop_L0
    dsimp only
    rw [decide_eq_true (show (i : Int) < (rows.length : Int) by omega), ifB_true, gi_of hi]
    simp only [some_bind', atP]
    rw [wrap_succ (by omega)]
    have tk := take_snoc hi
    obtain ⟨b, t', e1, e2, e3, e4⟩ := divideE (r := rows[i]) hin hcin o
    unfold cOf at e1
    by_cases c1 : 0 < (cOf v rows[i]).f0
    · have c1' : 0 < (atT rows[i].f1 v).f0 := c1
      rw [decide_eq_true c1']
      simp only [ifB_true, e1, some_bind']
      rw [rq_true (decide_eq_true (by simp; omega))]
      refine ⟨_, rfl, rfl, by simp; omega, ha, inW_snoc hb e2, hc, ?_, ?_⟩
      · intro hbf
        dsimp only at hbf
        have ho : o = false := by cases o; rfl; exact absurd (e3 rfl) (by rw [hbf]; decide)
        obtain ⟨f1, f2, f3, f4⟩ := hf ho
        have e4 := e4 ho
        split at e4
        · rename_i hd
          rw [tk]
          refine ⟨?_, ?_, ?_, ?_⟩
          · rw [List.all_append, f1]; simp [okW, hd]
          · show nx = nxW v _
            unfold nxW; rw [filter_snoc, if_neg (by unfold isNone; simp; omega)]; exact f2
          · show lo ++ _ = lowW v _
            unfold lowW; rw [filter_snoc, if_pos (by unfold isLow; simpa using c1), List.map_append, f3, e4.2]; rfl
          · show up = upW v _
            unfold upW; rw [filter_snoc, if_neg (by unfold isUp; simp; omega)]; exact f4
        · rw [hbf] at e4; cases e4
      · intro hbt
        dsimp only at hbt
        rw [tk, List.all_append]
        cases o with
        | true => rw [ht rfl]; rfl
        | false =>
          have e4 := e4 rfl
          split at e4
          · rw [hbt] at e4; cases e4.1
          · rename_i hd
            have : okW v rows[i] = false := by unfold okW isNone; rw [decide_eq_false hd, decide_eq_false (by omega)]; rfl
            simp [this]
    · have c1' : ¬ 0 < (atT rows[i].f1 v).f0 := c1
      rw [decide_eq_false c1']
      by_cases c2 : (cOf v rows[i]).f0 < 0
      · have c2' : (atT rows[i].f1 v).f0 < 0 := c2
        rw [decide_eq_true c2']
        simp only [ifB_true, ifB_false, e1, some_bind']
        rw [rq_true (decide_eq_true (by simp; omega))]
        refine ⟨_, rfl, rfl, by simp; omega, ha, hb, inW_snoc hc e2, ?_, ?_⟩
        · intro hbf
          dsimp only at hbf
          have ho : o = false := by cases o; rfl; exact absurd (e3 rfl) (by rw [hbf]; decide)
          obtain ⟨f1, f2, f3, f4⟩ := hf ho
          have e4 := e4 ho
          split at e4
          · rename_i hd
            rw [tk]
            refine ⟨?_, ?_, ?_, ?_⟩
            · rw [List.all_append, f1]; simp [okW, hd]
            · show nx = nxW v _
              unfold nxW; rw [filter_snoc, if_neg (by unfold isNone; simp; omega)]; exact f2
            · show lo = lowW v _
              unfold lowW; rw [filter_snoc, if_neg (by unfold isLow; simp; omega)]; exact f3
            · show up ++ _ = upW v _
              unfold upW; rw [filter_snoc, if_pos (by unfold isUp; simpa using c2), List.map_append, f4, e4.2]; rfl
          · rw [hbf] at e4; cases e4
        · intro hbt
          dsimp only at hbt
          rw [tk, List.all_append]
          cases o with
          | true => rw [ht rfl]; rfl
          | false =>
            have e4 := e4 rfl
            split at e4
            · rw [hbt] at e4; cases e4.1
            · rename_i hd
              have : okW v rows[i] = false := by unfold okW isNone; rw [decide_eq_false hd, decide_eq_false (by omega)]; rfl
              simp [this]
      · have c2' : ¬ (atT rows[i].f1 v).f0 < 0 := c2
        rw [decide_eq_false c2']
        simp only [ifB_false, some_bind']
        rw [rq_true (decide_eq_true (by simp; omega))]
        have hz : isNone v rows[i] = true := by unfold isNone; simp; omega
        refine ⟨_, rfl, rfl, by simp; omega, inW_snoc ha hin, hb, hc, ?_, ?_⟩
        · intro hbf
          dsimp only at hbf
          obtain ⟨f1, f2, f3, f4⟩ := hf hbf
          rw [tk]
          refine ⟨?_, ?_, ?_, ?_⟩
          · rw [List.all_append, f1]; simp [okW, hz]
          · show nx ++ _ = nxW v _
            unfold nxW; rw [filter_snoc, if_pos hz, f2]; rfl
          · show lo = lowW v _
            unfold lowW; rw [filter_snoc, if_neg (by unfold isLow; simp; omega)]; exact f3
          · show up = upW v _
            unfold upW; rw [filter_snoc, if_neg (by unfold isUp; simp; omega)]; exact f4
        · intro hbt
          dsimp only at hbt
          rw [tk, List.all_append, ht hbt]; rfl
  · rintro ⟨nx, _, o, lo, up⟩ ⟨rfl, hn, ha, hb, hc, hf, ht⟩
    refine ⟨(nx, o, lo, up), ?_, rfl, hn, ha, hb, hc, hf, ht⟩
    unfold m_bound_engine_drop_L0
    dsimp only
    rw [decide_eq_false (by omega)]; rfl
def sumW (a b : TRow) : TRow := ⟨if a.f0 < b.f0 then b.f0 else a.f0, (addT a.f1 b.f1).1⟩
def badS (a b : TRow) : Bool := !decide ((addT a.f1 b.f1).2 = 0)
theorem drop_loop2 {up : List TRow} {a : TRow} (hu : inW up) (ha : in64T a.f1) {m : Nat} (hm : up.length ≤ 400) : ∀ (k i : Nat) (acc : List TRow) (o : Bool), i + k = up.length → acc.length + k ≤ 400 →
    loopO (m_bound_engine_drop_L2 up a) (acc, (i : Int), o) = some (acc ++ (up.drop i).map (sumW a), o || (up.drop i).any (badS a)) := by
  intro k
  induction k with
  | zero =>
    intro i acc o hi hb
    rw [List.drop_of_length_le (by omega)]
    refine loopO_inr ?_
    unfold m_bound_engine_drop_L2
    dsimp only
    rw [decide_eq_false (by omega)]
    simp [ifB_false]
  | succ k ih =>
    intro i acc o hi hb
    have hlt : i < up.length := by omega
    have e : m_bound_engine_drop_L2 up a (acc, (i : Int), o) = some (.inl (acc ++ [sumW a up[i]], ((i + 1 : Nat) : Int), o || badS a up[i])) := by
      unfold m_bound_engine_drop_L2
      dsimp only
      rw [decide_eq_true (show (i : Int) < (up.length : Int) by omega), ifB_true, gi_of hlt]
      simp only [some_bind', addP ha (hu _ (List.getElem_mem hlt)), termE]
      rw [rq_true (decide_eq_true (by simp; omega)), wrap_succ (by omega)]
      rfl
    rw [loopO_inl e, ih (i + 1) _ _ (by omega) (by simp; omega), List.drop_eq_getElem_cons hlt, List.map_cons, List.any_cons, List.append_assoc, Bool.or_assoc]
    rfl
theorem drop_loop1 {lo up : List TRow} (hl : inW lo) (hu : inW up) {n0 : Nat} (hn : n0 + lo.length * up.length ≤ 400) (hm : up.length ≤ 400) (hlo : lo.length ≤ 400) : ∀ (k i : Nat) (acc : List TRow) (o : Bool), i + k = lo.length → acc.length = n0 + i * up.length →
    loopO (m_bound_engine_drop_L1 lo up) (acc, (i : Int), o) = some (acc ++ (lo.drop i).flatMap (fun a => up.map (sumW a)), o || (lo.drop i).any (fun a => up.any (badS a))) := by
  intro k
  induction k with
  | zero =>
    intro i acc o hi hb
    rw [List.drop_of_length_le (by omega)]
    refine loopO_inr ?_
    unfold m_bound_engine_drop_L1
    dsimp only
    rw [decide_eq_false (by omega)]
    simp [ifB_false]
  | succ k ih =>
    intro i acc o hi hb
    have hlt : i < lo.length := by omega
    have hmul : (i + 1) * up.length ≤ lo.length * up.length := Nat.mul_le_mul_right _ (by omega)
    rw [Nat.add_mul, Nat.one_mul] at hmul
    have h2 := drop_loop2 (a := lo[i]) hu (hl _ (List.getElem_mem hlt)) (m := 0) hm up.length 0 acc o (by omega) (by omega)
    have e : m_bound_engine_drop_L1 lo up (acc, (i : Int), o) = some (.inl (acc ++ up.map (sumW lo[i]), ((i + 1 : Nat) : Int), o || up.any (badS lo[i]))) := by
      unfold m_bound_engine_drop_L1
      dsimp only
      rw [decide_eq_true (show (i : Int) < (lo.length : Int) by omega), ifB_true, gi_of hlt]
      simp only [some_bind']
      rw [show ((0 : Int)) = ((0 : Nat) : Int) from rfl, h2]
      simp only [some_bind', List.drop_zero]
      rw [wrap_succ (by omega)]
    rw [loopO_inl e, ih (i + 1) _ _ (by omega) (by simp [Nat.add_mul]; omega), List.drop_eq_getElem_cons hlt, List.flatMap_cons, List.any_cons, List.append_assoc, Bool.or_assoc]
def dropP (rows : List TRow) (v : Nat) : Option (TBound_stage × List TRow) :=
  if rows.all (okW v) && decide ((nxW v rows).length + (lowW v rows).length * (upW v rows).length ≤ 400) && !((lowW v rows).any fun a => (upW v rows).any (badS a)) then some (⟨lowW v rows, upW v rows⟩, nxW v rows ++ (lowW v rows).flatMap fun a => (upW v rows).map (sumW a)) else none
theorem dropE {rows : List TRow} {v : Nat} (hr : inW rows) (hl : rows.length ≤ 400) : ∃ s n o, m_bound_engine_drop ⟨false⟩ rows (v : Int) = some (s, n, ⟨o⟩) ∧ (match dropP rows v with | some (s', n') => o = false ∧ s = s' ∧ n = n' | none => o = true) := by
  unfold m_bound_engine_drop
  obtain ⟨⟨nx, o, lo, up⟩, h1, ⟨_, hn, ha, hb, hc, hf, ht⟩⟩ := drop_loop0 (v := v) hr hl
  dsimp only at hn ha hb hc hf ht
  dsimp only
  rw [h1]
  simp only [some_bind']
  rw [List.take_length] at hf ht
  cases o with
  | true =>
    refine ⟨_, _, _, rfl, ?_⟩
    unfold dropP
    rw [ht rfl]; rfl
  | false =>
    obtain ⟨f1, f2, f3, f4⟩ := hf rfl
    have hmul : lo.length * up.length ≤ 400 * 400 := Nat.mul_le_mul (by omega) (by omega)
    have w1 : IntKind.wrap .i64 ((lo.length : Int) * (up.length : Int)) = ((lo.length * up.length : Nat) : Int) := by
      rw [← Int.natCast_mul, wrap_i64 (by omega) (by omega)]
    have w2 : IntKind.wrap .i64 ((nx.length : Int) + ((lo.length * up.length : Nat) : Int)) = ((nx.length + lo.length * up.length : Nat) : Int) := by
      rw [wrap_i64 (by omega) (by omega)]; omega
    simp only [ifB_false, some_bind', w1, w2]
    unfold dropP
    rw [f1, ← f2, ← f3, ← f4]
    by_cases hbig : nx.length + lo.length * up.length ≤ 400
    · rw [decide_eq_false (by omega), decide_eq_true hbig]
      have l1 := drop_loop1 hb hc (n0 := nx.length) hbig (by omega) (by omega) lo.length 0 nx false (by omega) (by omega)
      simp only [ifB_false]
      rw [show ((0 : Int)) = ((0 : Nat) : Int) from rfl, l1]
      simp only [some_bind', List.drop_zero, Bool.false_or, Bool.true_and]
      refine ⟨_, _, _, rfl, ?_⟩
      cases hq : lo.any fun a => up.any (badS a) with
      | true => rfl
      | false => exact ⟨rfl, rfl, rfl⟩
    · rw [decide_eq_true (by omega), decide_eq_false hbig]
      exact ⟨_, _, _, rfl, rfl⟩
theorem drop_in {rows : List TRow} {v : Nat} {s : TBound_stage} {n : List TRow} (h : dropP rows v = some (s, n)) (hr : inW rows) : inW s.f0 ∧ inW s.f1 ∧ inW n ∧ n.length ≤ 400 := by
  unfold dropP at h
  split at h
  · rename_i hc
    cases h
    simp only [Bool.and_eq_true, decide_eq_true_eq] at hc
    refine ⟨fun r hr' => ?_, fun r hr' => ?_, fun r hr' => ?_, ?_⟩
    · unfold lowW at hr'; obtain ⟨x, _, rfl⟩ := List.mem_map.1 hr'; exact divT_in
    · unfold upW at hr'; obtain ⟨x, _, rfl⟩ := List.mem_map.1 hr'; exact divT_in
    · rcases List.mem_append.1 hr' with h | h
      · exact hr _ (List.mem_filter.1 h).1
      · obtain ⟨a, _, h⟩ := List.mem_flatMap.1 h
        obtain ⟨b, _, rfl⟩ := List.mem_map.1 h
        exact addT_good.1
    · have : ∀ l : List TRow, (l.flatMap fun a => (upW v rows).map (sumW a)).length = l.length * (upW v rows).length := by
        intro l
        induction l with
        | nil => simp
        | cons a l ih => rw [List.flatMap_cons, List.length_append, ih, List.length_map, List.length_cons, Nat.add_mul]; omega
      rw [List.length_append, this]; exact hc.1.2
  · cases h
end Go.E
end
