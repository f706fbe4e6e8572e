import Derived.Test.YtnahfkmdojbpkaaMT2
set_option linter.all false
set_option maxRecDepth 100000
namespace Go.E
open Go Go.Proofs Go.Eng
variable {TB : Nat → Option Obj}
theorem m_law03_GaussKeeps_ev (a0 : List TTerm) (a1 : List TRat) (r0 : Bool) (h : m_law03_GaussKeeps a0 a1 = some r0) (d : Nat) (G : Heap) : Tel Try.prog TB d 4 [.p (.sl (a0.map cTTerm)), .p (.sl (a1.map cTRat))] G (.p (.bool r0)) (G) := by
  unfold m_law03_GaussKeeps at h
  refine Tel.intro mix Try.func4 rfl (Nat.le_of_ble_eq_true rfl) {frzAt := fun t => t == 12 || t == 16 || t == 24 || t == 27 || t == 36 || t == 42 || t == 60} (by kernel_rfl) (by kernel_rfl) ?_
  generalize hQ : callPost _ _ _ _ _ = Q
  obtain ⟨r1, hr1, h⟩ := bs h
  simp -implicitDefEqProofs only [go_sem, Nat.reduceEqDiff, Nat.reduceAdd, Nat.reduceLT, Nat.reduceLeDiff, Nat.reduceMul, Nat.reduceBEq, reduceIte]
  refine call_frz (r' := .p (.bool r1)) (args := []) (caps := []) (m_law03_awake_ev  r1 hr1 (d + 1) empty) (wkRs_refl []) rfl (by simp -implicitDefEqProofs only [go_sem, Nat.reduceEqDiff, Nat.reduceAdd, Nat.reduceLT, Nat.reduceLeDiff, Nat.reduceMul, Nat.reduceBEq, reduceIte]) (by simp -implicitDefEqProofs only [go_sem, Nat.reduceEqDiff, Nat.reduceAdd, Nat.reduceLT, Nat.reduceLeDiff, Nat.reduceMul, Nat.reduceBEq, reduceIte]) ?_ rfl rfl
  simp -implicitDefEqProofs only [go_sem, Nat.reduceEqDiff, Nat.reduceAdd, Nat.reduceLT, Nat.reduceLeDiff, Nat.reduceMul, Nat.reduceBEq, reduceIte]
  obtain ⟨v2, hz, h⟩ := bs h
  obtain ⟨R3, hR3⟩ : ∃ R : St → Prop, R = fun s => s.G = cut d G ∧ s.F 0 = .p (.sl (a0.map cTTerm)) ∧ s.F 1 = .p (.sl (a1.map cTRat)) ∧ s.F 23 = .p (.bool v2) ∧ True := ⟨_, rfl⟩
  refine cutR R3 ?_ ?_
  · replace h := hz
    rcases ib h with ⟨c4, h⟩ | ⟨c4, h⟩
    · cases h
      simp -implicitDefEqProofs only [go_sem, Nat.reduceEqDiff, Nat.reduceAdd, Nat.reduceLT, Nat.reduceLeDiff, Nat.reduceMul, Nat.reduceBEq, reduceIte, c4]
      rw [hR3]
      simp -implicitDefEqProofs only [go_sem, Nat.reduceEqDiff, Nat.reduceAdd, Nat.reduceLT, Nat.reduceLeDiff, Nat.reduceMul, Nat.reduceBEq, reduceIte, c4]
    · obtain ⟨r5, hr5, h⟩ := bs h
      simp -implicitDefEqProofs only [go_sem, Nat.reduceEqDiff, Nat.reduceAdd, Nat.reduceLT, Nat.reduceLeDiff, Nat.reduceMul, Nat.reduceBEq, reduceIte, c4]
      refine call_frz (r' := .p (.bool r5)) (m_law03_small_ev a0 r5 hr5 (d + 1) empty) (by simp -implicitDefEqProofs only [go_sem, Nat.reduceEqDiff, Nat.reduceAdd, Nat.reduceLT, Nat.reduceLeDiff, Nat.reduceMul, Nat.reduceBEq, reduceIte, c4]) rfl (by simp -implicitDefEqProofs only [go_sem, Nat.reduceEqDiff, Nat.reduceAdd, Nat.reduceLT, Nat.reduceLeDiff, Nat.reduceMul, Nat.reduceBEq, reduceIte]) (by simp -implicitDefEqProofs only [go_sem, Nat.reduceEqDiff, Nat.reduceAdd, Nat.reduceLT, Nat.reduceLeDiff, Nat.reduceMul, Nat.reduceBEq, reduceIte]) ?_ rfl rfl
      rcases ib h with ⟨c6, h⟩ | ⟨c6, h⟩
      · cases h
        simp -implicitDefEqProofs only [go_sem, Nat.reduceEqDiff, Nat.reduceAdd, Nat.reduceLT, Nat.reduceLeDiff, Nat.reduceMul, Nat.reduceBEq, reduceIte, c4, c6]
        rw [hR3]
        simp -implicitDefEqProofs only [go_sem, Nat.reduceEqDiff, Nat.reduceAdd, Nat.reduceLT, Nat.reduceLeDiff, Nat.reduceMul, Nat.reduceBEq, reduceIte, c4, c6]
      · cases h
        simp -implicitDefEqProofs only [go_sem, Nat.reduceEqDiff, Nat.reduceAdd, Nat.reduceLT, Nat.reduceLeDiff, Nat.reduceMul, Nat.reduceBEq, reduceIte, c4, c6]
        rw [hR3]
        simp -implicitDefEqProofs only [go_sem, Nat.reduceEqDiff, Nat.reduceAdd, Nat.reduceLT, Nat.reduceLeDiff, Nat.reduceMul, Nat.reduceBEq, reduceIte, c4, c6]
  · replace h := h; clear hz
    rintro s i
    rw [hR3] at i
    obtain ⟨gi7, i7⟩ := i
    clear hR3
    try dsimp only at h
    rcases ib h with ⟨c8, h⟩ | ⟨c8, h⟩
    · obtain ⟨r9, hr9, h⟩ := bs h
      simp -implicitDefEqProofs only [go_sem, Nat.reduceEqDiff, Nat.reduceAdd, Nat.reduceLT, Nat.reduceLeDiff, Nat.reduceMul, Nat.reduceBEq, reduceIte, gi7, i7, c8]
      try refine gCall_eta gi7 ?_
      refine call_frz (r' := .p (.bool r9)) (args := []) (caps := []) (m_law03_awake_ev  r9 hr9 (d + 1) empty) (wkRs_refl []) rfl (by simp -implicitDefEqProofs only [go_sem, Nat.reduceEqDiff, Nat.reduceAdd, Nat.reduceLT, Nat.reduceLeDiff, Nat.reduceMul, Nat.reduceBEq, reduceIte]) (by simp -implicitDefEqProofs only [go_sem, Nat.reduceEqDiff, Nat.reduceAdd, Nat.reduceLT, Nat.reduceLeDiff, Nat.reduceMul, Nat.reduceBEq, reduceIte]) ?_ rfl rfl
      cases h
      subst hQ
      simp -implicitDefEqProofs only [go_sem, Nat.reduceEqDiff, Nat.reduceAdd, Nat.reduceLT, Nat.reduceLeDiff, Nat.reduceMul, Nat.reduceBEq, reduceIte, gi7, i7, c8, Try.results4]
    · obtain ⟨r10, hr10, h⟩ := bs h
      simp -implicitDefEqProofs only [go_sem, Nat.reduceEqDiff, Nat.reduceAdd, Nat.reduceLT, Nat.reduceLeDiff, Nat.reduceMul, Nat.reduceBEq, reduceIte, gi7, i7, c8]
      refine call_frz (r' := .tup [.p (.sl (r10.1.map cTTerm)), .p (.sl (r10.2.1.map cii64)), .p (.int .i64 r10.2.2)]) (m_gauss_Solve_ev a0 r10 hr10 (d + 1) empty) (by simp -implicitDefEqProofs only [go_sem, Nat.reduceEqDiff, Nat.reduceAdd, Nat.reduceLT, Nat.reduceLeDiff, Nat.reduceMul, Nat.reduceBEq, reduceIte, gi7, i7, c8]) rfl (by simp -implicitDefEqProofs only [go_sem, Nat.reduceEqDiff, Nat.reduceAdd, Nat.reduceLT, Nat.reduceLeDiff, Nat.reduceMul, Nat.reduceBEq, reduceIte]) (by simp -implicitDefEqProofs only [go_sem, Nat.reduceEqDiff, Nat.reduceAdd, Nat.reduceLT, Nat.reduceLeDiff, Nat.reduceMul, Nat.reduceBEq, reduceIte]) ?_ rfl rfl
      rcases ib h with ⟨c11, h⟩ | ⟨c11, h⟩
      · cases h
        subst hQ
        simp -implicitDefEqProofs only [go_sem, Nat.reduceEqDiff, Nat.reduceAdd, Nat.reduceLT, Nat.reduceLeDiff, Nat.reduceMul, Nat.reduceBEq, reduceIte, gi7, i7, c8, c11, Try.results4]
      · obtain ⟨r12, hr12, h⟩ := bs h
        simp -implicitDefEqProofs only [go_sem, Nat.reduceEqDiff, Nat.reduceAdd, Nat.reduceLT, Nat.reduceLeDiff, Nat.reduceMul, Nat.reduceBEq, reduceIte, gi7, i7, c8, c11]
        refine call_frz (r' := .tup [.p (.bool r12.1), .p (.bool r12.2)]) (m_law03_zeros_ev a0 a1 r12 hr12 (d + 1) empty) (by simp -implicitDefEqProofs only [go_sem, Nat.reduceEqDiff, Nat.reduceAdd, Nat.reduceLT, Nat.reduceLeDiff, Nat.reduceMul, Nat.reduceBEq, reduceIte, gi7, i7, c8, c11]) rfl (by simp -implicitDefEqProofs only [go_sem, Nat.reduceEqDiff, Nat.reduceAdd, Nat.reduceLT, Nat.reduceLeDiff, Nat.reduceMul, Nat.reduceBEq, reduceIte]) (by simp -implicitDefEqProofs only [go_sem, Nat.reduceEqDiff, Nat.reduceAdd, Nat.reduceLT, Nat.reduceLeDiff, Nat.reduceMul, Nat.reduceBEq, reduceIte]) ?_ rfl rfl
        obtain ⟨r13, hr13, h⟩ := bs h
        simp -implicitDefEqProofs only [go_sem, Nat.reduceEqDiff, Nat.reduceAdd, Nat.reduceLT, Nat.reduceLeDiff, Nat.reduceMul, Nat.reduceBEq, reduceIte, gi7, i7, c8, c11]
        refine call_frz (r' := .tup [.p (.bool r13.1), .p (.bool r13.2)]) (m_law03_zeros_ev r10.1 a1 r13 hr13 (d + 1) empty) (by simp -implicitDefEqProofs only [go_sem, Nat.reduceEqDiff, Nat.reduceAdd, Nat.reduceLT, Nat.reduceLeDiff, Nat.reduceMul, Nat.reduceBEq, reduceIte, gi7, i7, c8, c11]) rfl (by simp -implicitDefEqProofs only [go_sem, Nat.reduceEqDiff, Nat.reduceAdd, Nat.reduceLT, Nat.reduceLeDiff, Nat.reduceMul, Nat.reduceBEq, reduceIte]) (by simp -implicitDefEqProofs only [go_sem, Nat.reduceEqDiff, Nat.reduceAdd, Nat.reduceLT, Nat.reduceLeDiff, Nat.reduceMul, Nat.reduceBEq, reduceIte]) ?_ rfl rfl
        simp -implicitDefEqProofs only [go_sem, Nat.reduceEqDiff, Nat.reduceAdd, Nat.reduceLT, Nat.reduceLeDiff, Nat.reduceMul, Nat.reduceBEq, reduceIte, gi7, i7, c8, c11]
        obtain ⟨v14, hz, h⟩ := bs h
        obtain ⟨R15, hR15⟩ : ∃ R : St → Prop, R = fun s => s.G = cut d G ∧ s.F 6 = .p (.sl (r10.2.1.map cii64)) ∧ s.F 7 = .p (.int .i64 r10.2.2) ∧ s.F 8 = .p (.bool r12.1) ∧ s.F 10 = .p (.bool r13.1) ∧ s.F 50 = .p (.bool v14) ∧ True := ⟨_, rfl⟩
        refine cutR R15 ?_ ?_
        · replace h := hz
          rcases ib h with ⟨c16, h⟩ | ⟨c16, h⟩
          · cases h
            simp -implicitDefEqProofs only [go_sem, Nat.reduceEqDiff, Nat.reduceAdd, Nat.reduceLT, Nat.reduceLeDiff, Nat.reduceMul, Nat.reduceBEq, reduceIte, gi7, i7, c8, c11, c16]
            rw [hR15]
            simp -implicitDefEqProofs only [go_sem, Nat.reduceEqDiff, Nat.reduceAdd, Nat.reduceLT, Nat.reduceLeDiff, Nat.reduceMul, Nat.reduceBEq, reduceIte, gi7, i7, c8, c11, c16]
          · cases h
            simp -implicitDefEqProofs only [go_sem, Nat.reduceEqDiff, Nat.reduceAdd, Nat.reduceLT, Nat.reduceLeDiff, Nat.reduceMul, Nat.reduceBEq, reduceIte, gi7, i7, c8, c11, c16]
            rw [hR15]
            simp -implicitDefEqProofs only [go_sem, Nat.reduceEqDiff, Nat.reduceAdd, Nat.reduceLT, Nat.reduceLeDiff, Nat.reduceMul, Nat.reduceBEq, reduceIte, gi7, i7, c8, c11, c16]
        · replace h := h; clear hz
          rintro s i
          rw [hR15] at i
          obtain ⟨gi17, i17⟩ := i
          clear hR15
          try dsimp only at h
          rcases ib h with ⟨c18, h⟩ | ⟨c18, h⟩
          · cases h
            subst hQ
            simp -implicitDefEqProofs only [go_sem, Nat.reduceEqDiff, Nat.reduceAdd, Nat.reduceLT, Nat.reduceLeDiff, Nat.reduceMul, Nat.reduceBEq, reduceIte, gi7, i7, c8, c11, gi17, i17, c18, Try.results4]
          · rcases ib h with ⟨c19, h⟩ | ⟨c19, h⟩
            · cases h
              subst hQ
              simp -implicitDefEqProofs only [go_sem, Nat.reduceEqDiff, Nat.reduceAdd, Nat.reduceLT, Nat.reduceLeDiff, Nat.reduceMul, Nat.reduceBEq, reduceIte, gi7, i7, c8, c11, gi17, i17, c18, c19, Try.results4]
            · rcases ib h with ⟨c20, h⟩ | ⟨c20, h⟩
              · obtain ⟨r21, hr21, h⟩ := bs h
                simp -implicitDefEqProofs only [go_sem, Nat.reduceEqDiff, Nat.reduceAdd, Nat.reduceLT, Nat.reduceLeDiff, Nat.reduceMul, Nat.reduceBEq, reduceIte, gi7, i7, c8, c11, gi17, i17, c18, c19, c20]
                refine call_frz (r' := .p (.sl (r21.map cii64))) (m_gauss_Free_ev r10.2.1 r21 hr21 (d + 1) empty) (by simp -implicitDefEqProofs only [go_sem, Nat.reduceEqDiff, Nat.reduceAdd, Nat.reduceLT, Nat.reduceLeDiff, Nat.reduceMul, Nat.reduceBEq, reduceIte, gi7, i7, c8, c11, gi17, i17, c18, c19, c20]) rfl (by simp -implicitDefEqProofs only [go_sem, Nat.reduceEqDiff, Nat.reduceAdd, Nat.reduceLT, Nat.reduceLeDiff, Nat.reduceMul, Nat.reduceBEq, reduceIte]) (by simp -implicitDefEqProofs only [go_sem, Nat.reduceEqDiff, Nat.reduceAdd, Nat.reduceLT, Nat.reduceLeDiff, Nat.reduceMul, Nat.reduceBEq, reduceIte]) ?_ rfl rfl
                cases h
                subst hQ
                simp -implicitDefEqProofs only [go_sem, Nat.reduceEqDiff, Nat.reduceAdd, Nat.reduceLT, Nat.reduceLeDiff, Nat.reduceMul, Nat.reduceBEq, reduceIte, gi7, i7, c8, c11, gi17, i17, c18, c19, c20, Try.results4]
              · cases h
                subst hQ
                simp -implicitDefEqProofs only [go_sem, Nat.reduceEqDiff, Nat.reduceAdd, Nat.reduceLT, Nat.reduceLeDiff, Nat.reduceMul, Nat.reduceBEq, reduceIte, gi7, i7, c8, c11, gi17, i17, c18, c19, c20, Try.results4]
theorem m_law03_GaussTwice_ev (a0 : List TTerm) (r0 : Bool) (h : m_law03_GaussTwice a0 = some r0) (d : Nat) (G : Heap) : Tel Try.prog TB d 5 [.p (.sl (a0.map cTTerm))] G (.p (.bool r0)) (G) := by
  unfold m_law03_GaussTwice at h
  refine Tel.intro mix Try.func5 rfl (Nat.le_of_ble_eq_true rfl) {frzAt := fun t => t == 9 || t == 13 || t == 16 || t == 19 || t == 35 || t == 44 || t == 49} (by kernel_rfl) (by kernel_rfl) ?_
  generalize hQ : callPost _ _ _ _ _ = Q
  obtain ⟨r1, hr1, h⟩ := bs h
  simp -implicitDefEqProofs only [go_sem, Nat.reduceEqDiff, Nat.reduceAdd, Nat.reduceLT, Nat.reduceLeDiff, Nat.reduceMul, Nat.reduceBEq, reduceIte]
  refine call_frz (r' := .p (.bool r1)) (args := []) (caps := []) (m_law03_awake_ev  r1 hr1 (d + 1) empty) (wkRs_refl []) rfl (by simp -implicitDefEqProofs only [go_sem, Nat.reduceEqDiff, Nat.reduceAdd, Nat.reduceLT, Nat.reduceLeDiff, Nat.reduceMul, Nat.reduceBEq, reduceIte]) (by simp -implicitDefEqProofs only [go_sem, Nat.reduceEqDiff, Nat.reduceAdd, Nat.reduceLT, Nat.reduceLeDiff, Nat.reduceMul, Nat.reduceBEq, reduceIte]) ?_ rfl rfl
  simp -implicitDefEqProofs only [go_sem, Nat.reduceEqDiff, Nat.reduceAdd, Nat.reduceLT, Nat.reduceLeDiff, Nat.reduceMul, Nat.reduceBEq, reduceIte]
  obtain ⟨v2, hz, h⟩ := bs h
  obtain ⟨R3, hR3⟩ : ∃ R : St → Prop, R = fun s => s.G = cut d G ∧ s.F 0 = .p (.sl (a0.map cTTerm)) ∧ s.F 15 = .p (.bool v2) ∧ True := ⟨_, rfl⟩
  refine cutR R3 ?_ ?_
  · replace h := hz
    rcases ib h with ⟨c4, h⟩ | ⟨c4, h⟩
    · cases h
      simp -implicitDefEqProofs only [go_sem, Nat.reduceEqDiff, Nat.reduceAdd, Nat.reduceLT, Nat.reduceLeDiff, Nat.reduceMul, Nat.reduceBEq, reduceIte, c4]
      rw [hR3]
      simp -implicitDefEqProofs only [go_sem, Nat.reduceEqDiff, Nat.reduceAdd, Nat.reduceLT, Nat.reduceLeDiff, Nat.reduceMul, Nat.reduceBEq, reduceIte, c4]
    · obtain ⟨r5, hr5, h⟩ := bs h
      simp -implicitDefEqProofs only [go_sem, Nat.reduceEqDiff, Nat.reduceAdd, Nat.reduceLT, Nat.reduceLeDiff, Nat.reduceMul, Nat.reduceBEq, reduceIte, c4]
      refine call_frz (r' := .p (.bool r5)) (m_law03_small_ev a0 r5 hr5 (d + 1) empty) (by simp -implicitDefEqProofs only [go_sem, Nat.reduceEqDiff, Nat.reduceAdd, Nat.reduceLT, Nat.reduceLeDiff, Nat.reduceMul, Nat.reduceBEq, reduceIte, c4]) rfl (by simp -implicitDefEqProofs only [go_sem, Nat.reduceEqDiff, Nat.reduceAdd, Nat.reduceLT, Nat.reduceLeDiff, Nat.reduceMul, Nat.reduceBEq, reduceIte]) (by simp -implicitDefEqProofs only [go_sem, Nat.reduceEqDiff, Nat.reduceAdd, Nat.reduceLT, Nat.reduceLeDiff, Nat.reduceMul, Nat.reduceBEq, reduceIte]) ?_ rfl rfl
      cases h
      simp -implicitDefEqProofs only [go_sem, Nat.reduceEqDiff, Nat.reduceAdd, Nat.reduceLT, Nat.reduceLeDiff, Nat.reduceMul, Nat.reduceBEq, reduceIte, c4]
      rw [hR3]
      simp -implicitDefEqProofs only [go_sem, Nat.reduceEqDiff, Nat.reduceAdd, Nat.reduceLT, Nat.reduceLeDiff, Nat.reduceMul, Nat.reduceBEq, reduceIte, c4]
  · replace h := h; clear hz
    rintro s i
    rw [hR3] at i
    obtain ⟨gi6, i6⟩ := i
    clear hR3
    try dsimp only at h
    rcases ib h with ⟨c7, h⟩ | ⟨c7, h⟩
    · obtain ⟨r8, hr8, h⟩ := bs h
      simp -implicitDefEqProofs only [go_sem, Nat.reduceEqDiff, Nat.reduceAdd, Nat.reduceLT, Nat.reduceLeDiff, Nat.reduceMul, Nat.reduceBEq, reduceIte, gi6, i6, c7]
      try refine gCall_eta gi6 ?_
      refine call_frz (r' := .p (.bool r8)) (args := []) (caps := []) (m_law03_awake_ev  r8 hr8 (d + 1) empty) (wkRs_refl []) rfl (by simp -implicitDefEqProofs only [go_sem, Nat.reduceEqDiff, Nat.reduceAdd, Nat.reduceLT, Nat.reduceLeDiff, Nat.reduceMul, Nat.reduceBEq, reduceIte]) (by simp -implicitDefEqProofs only [go_sem, Nat.reduceEqDiff, Nat.reduceAdd, Nat.reduceLT, Nat.reduceLeDiff, Nat.reduceMul, Nat.reduceBEq, reduceIte]) ?_ rfl rfl
      cases h
      subst hQ
      simp -implicitDefEqProofs only [go_sem, Nat.reduceEqDiff, Nat.reduceAdd, Nat.reduceLT, Nat.reduceLeDiff, Nat.reduceMul, Nat.reduceBEq, reduceIte, gi6, i6, c7, Try.results5]
    · obtain ⟨r9, hr9, h⟩ := bs h
      simp -implicitDefEqProofs only [go_sem, Nat.reduceEqDiff, Nat.reduceAdd, Nat.reduceLT, Nat.reduceLeDiff, Nat.reduceMul, Nat.reduceBEq, reduceIte, gi6, i6, c7]
      refine call_frz (r' := .tup [.p (.sl (r9.1.map cTTerm)), .p (.sl (r9.2.1.map cii64)), .p (.int .i64 r9.2.2)]) (m_gauss_Solve_ev a0 r9 hr9 (d + 1) empty) (by simp -implicitDefEqProofs only [go_sem, Nat.reduceEqDiff, Nat.reduceAdd, Nat.reduceLT, Nat.reduceLeDiff, Nat.reduceMul, Nat.reduceBEq, reduceIte, gi6, i6, c7]) rfl (by simp -implicitDefEqProofs only [go_sem, Nat.reduceEqDiff, Nat.reduceAdd, Nat.reduceLT, Nat.reduceLeDiff, Nat.reduceMul, Nat.reduceBEq, reduceIte]) (by simp -implicitDefEqProofs only [go_sem, Nat.reduceEqDiff, Nat.reduceAdd, Nat.reduceLT, Nat.reduceLeDiff, Nat.reduceMul, Nat.reduceBEq, reduceIte]) ?_ rfl rfl
      rcases ib h with ⟨c10, h⟩ | ⟨c10, h⟩
      · rcases ib h with ⟨c11, h⟩ | ⟨c11, h⟩
        · cases h
          subst hQ
          simp -implicitDefEqProofs only [go_sem, Nat.reduceEqDiff, Nat.reduceAdd, Nat.reduceLT, Nat.reduceLeDiff, Nat.reduceMul, Nat.reduceBEq, reduceIte, gi6, i6, c7, c10, c11, Try.results5]
        · cases h
          subst hQ
          simp -implicitDefEqProofs only [go_sem, Nat.reduceEqDiff, Nat.reduceAdd, Nat.reduceLT, Nat.reduceLeDiff, Nat.reduceMul, Nat.reduceBEq, reduceIte, gi6, i6, c7, c10, c11, Try.results5]
      · obtain ⟨r12, hr12, h⟩ := bs h
        simp -implicitDefEqProofs only [go_sem, Nat.reduceEqDiff, Nat.reduceAdd, Nat.reduceLT, Nat.reduceLeDiff, Nat.reduceMul, Nat.reduceBEq, reduceIte, gi6, i6, c7, c10]
        refine call_frz (r' := .tup [.p (.sl (r12.1.map cTTerm)), .p (.sl (r12.2.1.map cii64)), .p (.int .i64 r12.2.2)]) (m_gauss_Solve_ev r9.1 r12 hr12 (d + 1) empty) (by simp -implicitDefEqProofs only [go_sem, Nat.reduceEqDiff, Nat.reduceAdd, Nat.reduceLT, Nat.reduceLeDiff, Nat.reduceMul, Nat.reduceBEq, reduceIte, gi6, i6, c7, c10]) rfl (by simp -implicitDefEqProofs only [go_sem, Nat.reduceEqDiff, Nat.reduceAdd, Nat.reduceLT, Nat.reduceLeDiff, Nat.reduceMul, Nat.reduceBEq, reduceIte]) (by simp -implicitDefEqProofs only [go_sem, Nat.reduceEqDiff, Nat.reduceAdd, Nat.reduceLT, Nat.reduceLeDiff, Nat.reduceMul, Nat.reduceBEq, reduceIte]) ?_ rfl rfl
        rcases ib h with ⟨c13, h⟩ | ⟨c13, h⟩
        · obtain ⟨r14, hr14, h⟩ := bs h
          simp -implicitDefEqProofs only [go_sem, Nat.reduceEqDiff, Nat.reduceAdd, Nat.reduceLT, Nat.reduceLeDiff, Nat.reduceMul, Nat.reduceBEq, reduceIte, gi6, i6, c7, c10, c13]
          refine call_frz (r' := .p (.bool r14)) (m_ref03_Same_ev r9.1 r12.1 r14 hr14 (d + 1) empty) (by simp -implicitDefEqProofs only [go_sem, Nat.reduceEqDiff, Nat.reduceAdd, Nat.reduceLT, Nat.reduceLeDiff, Nat.reduceMul, Nat.reduceBEq, reduceIte, gi6, i6, c7, c10, c13]) rfl (by simp -implicitDefEqProofs only [go_sem, Nat.reduceEqDiff, Nat.reduceAdd, Nat.reduceLT, Nat.reduceLeDiff, Nat.reduceMul, Nat.reduceBEq, reduceIte]) (by simp -implicitDefEqProofs only [go_sem, Nat.reduceEqDiff, Nat.reduceAdd, Nat.reduceLT, Nat.reduceLeDiff, Nat.reduceMul, Nat.reduceBEq, reduceIte]) ?_ rfl rfl
          rcases ib h with ⟨c15, h⟩ | ⟨c15, h⟩
          · obtain ⟨r16, hr16, h⟩ := bs h
            simp -implicitDefEqProofs only [go_sem, Nat.reduceEqDiff, Nat.reduceAdd, Nat.reduceLT, Nat.reduceLeDiff, Nat.reduceMul, Nat.reduceBEq, reduceIte, gi6, i6, c7, c10, c13, c15]
            refine call_frz (r' := .p (.bool r16)) (m_ref03_Ints_ev r9.2.1 r12.2.1 r16 hr16 (d + 1) empty) (by simp -implicitDefEqProofs only [go_sem, Nat.reduceEqDiff, Nat.reduceAdd, Nat.reduceLT, Nat.reduceLeDiff, Nat.reduceMul, Nat.reduceBEq, reduceIte, gi6, i6, c7, c10, c13, c15]) rfl (by simp -implicitDefEqProofs only [go_sem, Nat.reduceEqDiff, Nat.reduceAdd, Nat.reduceLT, Nat.reduceLeDiff, Nat.reduceMul, Nat.reduceBEq, reduceIte]) (by simp -implicitDefEqProofs only [go_sem, Nat.reduceEqDiff, Nat.reduceAdd, Nat.reduceLT, Nat.reduceLeDiff, Nat.reduceMul, Nat.reduceBEq, reduceIte]) ?_ rfl rfl
            cases h
            subst hQ
            simp -implicitDefEqProofs only [go_sem, Nat.reduceEqDiff, Nat.reduceAdd, Nat.reduceLT, Nat.reduceLeDiff, Nat.reduceMul, Nat.reduceBEq, reduceIte, gi6, i6, c7, c10, c13, c15, Try.results5]
          · cases h
            subst hQ
            simp -implicitDefEqProofs only [go_sem, Nat.reduceEqDiff, Nat.reduceAdd, Nat.reduceLT, Nat.reduceLeDiff, Nat.reduceMul, Nat.reduceBEq, reduceIte, gi6, i6, c7, c10, c13, c15, Try.results5]
        · cases h
          subst hQ
          simp -implicitDefEqProofs only [go_sem, Nat.reduceEqDiff, Nat.reduceAdd, Nat.reduceLT, Nat.reduceLeDiff, Nat.reduceMul, Nat.reduceBEq, reduceIte, gi6, i6, c7, c10, c13, Try.results5]
theorem m_law03_GaussPivots_ev (a0 : List TTerm) (r0 : Bool) (h : m_law03_GaussPivots a0 = some r0) (d : Nat) (G : Heap) : Tel Try.prog TB d 6 [.p (.sl (a0.map cTTerm))] G (.p (.bool r0)) (G) := by
  unfold m_law03_GaussPivots at h
  refine Tel.intro mix Try.func6 rfl (Nat.le_of_ble_eq_true rfl) {frzAt := fun t => t == 9 || t == 13 || t == 16 || t == 19 || t == 78, clean := fun r => if r = 7 then [8] else if r = 12 then [8] else []} (by kernel_rfl) (by kernel_rfl) ?_
  generalize hQ : callPost _ _ _ _ _ = Q
  obtain ⟨r1, hr1, h⟩ := bs h
  simp -implicitDefEqProofs only [go_sem, Nat.reduceEqDiff, Nat.reduceAdd, Nat.reduceLT, Nat.reduceLeDiff, Nat.reduceMul, Nat.reduceBEq, reduceIte]
  refine call_frz (r' := .p (.bool r1)) (args := []) (caps := []) (m_law03_awake_ev  r1 hr1 (d + 1) empty) (wkRs_refl []) rfl (by simp -implicitDefEqProofs only [go_sem, Nat.reduceEqDiff, Nat.reduceAdd, Nat.reduceLT, Nat.reduceLeDiff, Nat.reduceMul, Nat.reduceBEq, reduceIte]) (by simp -implicitDefEqProofs only [go_sem, Nat.reduceEqDiff, Nat.reduceAdd, Nat.reduceLT, Nat.reduceLeDiff, Nat.reduceMul, Nat.reduceBEq, reduceIte]) ?_ rfl rfl
  simp -implicitDefEqProofs only [go_sem, Nat.reduceEqDiff, Nat.reduceAdd, Nat.reduceLT, Nat.reduceLeDiff, Nat.reduceMul, Nat.reduceBEq, reduceIte]
  obtain ⟨v2, hz, h⟩ := bs h
  obtain ⟨R3, hR3⟩ : ∃ R : St → Prop, R = fun s => s.G = cut d G ∧ s.F 0 = .p (.sl (a0.map cTTerm)) ∧ s.F 15 = .p (.bool v2) ∧ True := ⟨_, rfl⟩
  refine cutR R3 ?_ ?_
  · replace h := hz
    rcases ib h with ⟨c4, h⟩ | ⟨c4, h⟩
    · cases h
      simp -implicitDefEqProofs only [go_sem, Nat.reduceEqDiff, Nat.reduceAdd, Nat.reduceLT, Nat.reduceLeDiff, Nat.reduceMul, Nat.reduceBEq, reduceIte, c4]
      rw [hR3]
      simp -implicitDefEqProofs only [go_sem, Nat.reduceEqDiff, Nat.reduceAdd, Nat.reduceLT, Nat.reduceLeDiff, Nat.reduceMul, Nat.reduceBEq, reduceIte, c4]
    · obtain ⟨r5, hr5, h⟩ := bs h
      simp -implicitDefEqProofs only [go_sem, Nat.reduceEqDiff, Nat.reduceAdd, Nat.reduceLT, Nat.reduceLeDiff, Nat.reduceMul, Nat.reduceBEq, reduceIte, c4]
      refine call_frz (r' := .p (.bool r5)) (m_law03_small_ev a0 r5 hr5 (d + 1) empty) (by simp -implicitDefEqProofs only [go_sem, Nat.reduceEqDiff, Nat.reduceAdd, Nat.reduceLT, Nat.reduceLeDiff, Nat.reduceMul, Nat.reduceBEq, reduceIte, c4]) rfl (by simp -implicitDefEqProofs only [go_sem, Nat.reduceEqDiff, Nat.reduceAdd, Nat.reduceLT, Nat.reduceLeDiff, Nat.reduceMul, Nat.reduceBEq, reduceIte]) (by simp -implicitDefEqProofs only [go_sem, Nat.reduceEqDiff, Nat.reduceAdd, Nat.reduceLT, Nat.reduceLeDiff, Nat.reduceMul, Nat.reduceBEq, reduceIte]) ?_ rfl rfl
      cases h
      simp -implicitDefEqProofs only [go_sem, Nat.reduceEqDiff, Nat.reduceAdd, Nat.reduceLT, Nat.reduceLeDiff, Nat.reduceMul, Nat.reduceBEq, reduceIte, c4]
      rw [hR3]
      simp -implicitDefEqProofs only [go_sem, Nat.reduceEqDiff, Nat.reduceAdd, Nat.reduceLT, Nat.reduceLeDiff, Nat.reduceMul, Nat.reduceBEq, reduceIte, c4]
  · replace h := h; clear hz
    rintro s i
    rw [hR3] at i
    obtain ⟨gi6, i6⟩ := i
    clear hR3
    try dsimp only at h
    rcases ib h with ⟨c7, h⟩ | ⟨c7, h⟩
    · obtain ⟨r8, hr8, h⟩ := bs h
      simp -implicitDefEqProofs only [go_sem, Nat.reduceEqDiff, Nat.reduceAdd, Nat.reduceLT, Nat.reduceLeDiff, Nat.reduceMul, Nat.reduceBEq, reduceIte, gi6, i6, c7]
      try refine gCall_eta gi6 ?_
      refine call_frz (r' := .p (.bool r8)) (args := []) (caps := []) (m_law03_awake_ev  r8 hr8 (d + 1) empty) (wkRs_refl []) rfl (by simp -implicitDefEqProofs only [go_sem, Nat.reduceEqDiff, Nat.reduceAdd, Nat.reduceLT, Nat.reduceLeDiff, Nat.reduceMul, Nat.reduceBEq, reduceIte]) (by simp -implicitDefEqProofs only [go_sem, Nat.reduceEqDiff, Nat.reduceAdd, Nat.reduceLT, Nat.reduceLeDiff, Nat.reduceMul, Nat.reduceBEq, reduceIte]) ?_ rfl rfl
      cases h
      subst hQ
      simp -implicitDefEqProofs only [go_sem, Nat.reduceEqDiff, Nat.reduceAdd, Nat.reduceLT, Nat.reduceLeDiff, Nat.reduceMul, Nat.reduceBEq, reduceIte, gi6, i6, c7, Try.results6]
    · obtain ⟨r9, hr9, h⟩ := bs h
      simp -implicitDefEqProofs only [go_sem, Nat.reduceEqDiff, Nat.reduceAdd, Nat.reduceLT, Nat.reduceLeDiff, Nat.reduceMul, Nat.reduceBEq, reduceIte, gi6, i6, c7]
      refine call_frz (r' := .tup [.p (.sl (r9.1.map cTTerm)), .p (.sl (r9.2.1.map cii64)), .p (.int .i64 r9.2.2)]) (m_gauss_Solve_ev a0 r9 hr9 (d + 1) empty) (by simp -implicitDefEqProofs only [go_sem, Nat.reduceEqDiff, Nat.reduceAdd, Nat.reduceLT, Nat.reduceLeDiff, Nat.reduceMul, Nat.reduceBEq, reduceIte, gi6, i6, c7]) rfl (by simp -implicitDefEqProofs only [go_sem, Nat.reduceEqDiff, Nat.reduceAdd, Nat.reduceLT, Nat.reduceLeDiff, Nat.reduceMul, Nat.reduceBEq, reduceIte]) (by simp -implicitDefEqProofs only [go_sem, Nat.reduceEqDiff, Nat.reduceAdd, Nat.reduceLT, Nat.reduceLeDiff, Nat.reduceMul, Nat.reduceBEq, reduceIte]) ?_ rfl rfl
      rcases ib h with ⟨c10, h⟩ | ⟨c10, h⟩
      · cases h
        subst hQ
        simp -implicitDefEqProofs only [go_sem, Nat.reduceEqDiff, Nat.reduceAdd, Nat.reduceLT, Nat.reduceLeDiff, Nat.reduceMul, Nat.reduceBEq, reduceIte, gi6, i6, c7, c10, Try.results6]
      · simp -implicitDefEqProofs only [go_sem, Nat.reduceEqDiff, Nat.reduceAdd, Nat.reduceLT, Nat.reduceLeDiff, Nat.reduceMul, Nat.reduceBEq, reduceIte, gi6, i6, c7, c10]
        obtain ⟨z13, hL13, h⟩ := bs h
        obtain ⟨I13, hI13⟩ : ∃ I : Int → St → Prop, I = fun v14 s => s.G = cut d G ∧ s.F 3 = .p (.sl (r9.1.map cTTerm)) ∧ s.F 4 = .p (.sl (r9.2.1.map cii64)) ∧ s.F 6 = .p (.int .i64 v14) ∧ True := ⟨_, rfl⟩
        obtain ⟨R13, hR13⟩ : ∃ R : ((Unit) ⊕ (Bool)) → GE → St → Prop, R = fun x e s => match x with | .inl _ => e = .exit 0 ∧ s.G = cut d G ∧ s.F 3 = .p (.sl (r9.1.map cTTerm)) ∧ s.F 4 = .p (.sl (r9.2.1.map cii64)) ∧ True | .inr r => e = .ret ∧ (r = r0 → Q .ret s) := ⟨_, rfl⟩
        refine lp (ts := [8]) rfl hL13 I13 R13 ?_ ?_ ?_
        · rw [hI13]
          simp -implicitDefEqProofs only [go_sem, Nat.reduceEqDiff, Nat.reduceAdd, Nat.reduceLT, Nat.reduceLeDiff, Nat.reduceMul, Nat.reduceBEq, reduceIte, gi6, i6, c7, c10]
        · clear h hL13
          rintro v14 y s h i
          rw [hI13] at i
          obtain ⟨gi13, i13⟩ := i
          replace h : m_law03_GaussPivots_L0 r9 (v14) = some y := h
          unfold m_law03_GaussPivots_L0 at h
          rcases ib h with ⟨c15, h⟩ | ⟨c15, h⟩
          · simp -implicitDefEqProofs only [go_sem, Nat.reduceEqDiff, Nat.reduceAdd, Nat.reduceLT, Nat.reduceLeDiff, Nat.reduceMul, Nat.reduceBEq, reduceIte, gi6, i6, c7, c10, gi13, i13, c15]
            obtain ⟨v16, hz, h⟩ := bs h
            obtain ⟨R17, hR17⟩ : ∃ R : St → Prop, R = fun s => s.G = cut d G ∧ s.F 3 = .p (.sl (r9.1.map cTTerm)) ∧ s.F 4 = .p (.sl (r9.2.1.map cii64)) ∧ s.F 6 = .p (.int .i64 v14) ∧ s.F 58 = .p (.bool v16) ∧ True := ⟨_, rfl⟩
            refine cutR R17 ?_ ?_
            · replace h := hz
              rcases ib h with ⟨c18, h⟩ | ⟨c18, h⟩
              · obtain ⟨v19, hv19, h⟩ := bs h
                replace hv19 := gis hv19
                obtain ⟨v20, hv20, h⟩ := bs h
                replace hv20 := gis hv20
                rcases ib h with ⟨c21, h⟩ | ⟨c21, h⟩
                · cases h
                  simp -implicitDefEqProofs only [go_sem, Nat.reduceEqDiff, Nat.reduceAdd, Nat.reduceLT, Nat.reduceLeDiff, Nat.reduceMul, Nat.reduceBEq, reduceIte, gi6, i6, c7, c10, gi13, i13, c15, c18, hv19, hv20, c21]
                  rw [hR17]
                  simp -implicitDefEqProofs only [go_sem, Nat.reduceEqDiff, Nat.reduceAdd, Nat.reduceLT, Nat.reduceLeDiff, Nat.reduceMul, Nat.reduceBEq, reduceIte, gi6, i6, c7, c10, gi13, i13, c15, c18, hv19, hv20, c21]
                · rcases ib h with ⟨c22, h⟩ | ⟨c22, h⟩
                  · cases h
                    simp -implicitDefEqProofs only [go_sem, Nat.reduceEqDiff, Nat.reduceAdd, Nat.reduceLT, Nat.reduceLeDiff, Nat.reduceMul, Nat.reduceBEq, reduceIte, gi6, i6, c7, c10, gi13, i13, c15, c18, hv19, hv20, c21, c22]
                    rw [hR17]
                    simp -implicitDefEqProofs only [go_sem, Nat.reduceEqDiff, Nat.reduceAdd, Nat.reduceLT, Nat.reduceLeDiff, Nat.reduceMul, Nat.reduceBEq, reduceIte, gi6, i6, c7, c10, gi13, i13, c15, c18, hv19, hv20, c21, c22]
                  · cases h
                    simp -implicitDefEqProofs only [go_sem, Nat.reduceEqDiff, Nat.reduceAdd, Nat.reduceLT, Nat.reduceLeDiff, Nat.reduceMul, Nat.reduceBEq, reduceIte, gi6, i6, c7, c10, gi13, i13, c15, c18, hv19, hv20, c21, c22]
                    rw [hR17]
                    simp -implicitDefEqProofs only [go_sem, Nat.reduceEqDiff, Nat.reduceAdd, Nat.reduceLT, Nat.reduceLeDiff, Nat.reduceMul, Nat.reduceBEq, reduceIte, gi6, i6, c7, c10, gi13, i13, c15, c18, hv19, hv20, c21, c22]
              · obtain ⟨v23, hv23, h⟩ := bs h
                replace hv23 := gis hv23
                rcases ib h with ⟨c24, h⟩ | ⟨c24, h⟩
                · cases h
                  simp -implicitDefEqProofs only [go_sem, Nat.reduceEqDiff, Nat.reduceAdd, Nat.reduceLT, Nat.reduceLeDiff, Nat.reduceMul, Nat.reduceBEq, reduceIte, gi6, i6, c7, c10, gi13, i13, c15, c18, hv23, c24]
                  rw [hR17]
                  simp -implicitDefEqProofs only [go_sem, Nat.reduceEqDiff, Nat.reduceAdd, Nat.reduceLT, Nat.reduceLeDiff, Nat.reduceMul, Nat.reduceBEq, reduceIte, gi6, i6, c7, c10, gi13, i13, c15, c18, hv23, c24]
                · cases h
                  simp -implicitDefEqProofs only [go_sem, Nat.reduceEqDiff, Nat.reduceAdd, Nat.reduceLT, Nat.reduceLeDiff, Nat.reduceMul, Nat.reduceBEq, reduceIte, gi6, i6, c7, c10, gi13, i13, c15, c18, hv23, c24]
                  rw [hR17]
                  simp -implicitDefEqProofs only [go_sem, Nat.reduceEqDiff, Nat.reduceAdd, Nat.reduceLT, Nat.reduceLeDiff, Nat.reduceMul, Nat.reduceBEq, reduceIte, gi6, i6, c7, c10, gi13, i13, c15, c18, hv23, c24]
            · replace h := h; clear hz
              rintro s i
              rw [hR17] at i
              obtain ⟨gi25, i25⟩ := i
              clear hR17
              try dsimp only at h
              rcases ib h with ⟨c26, h⟩ | ⟨c26, h⟩
              · cases h
                simp -implicitDefEqProofs only [go_sem, Nat.reduceEqDiff, Nat.reduceAdd, Nat.reduceLT, Nat.reduceLeDiff, Nat.reduceMul, Nat.reduceBEq, reduceIte, gi6, i6, c7, c10, gi13, i13, c15, gi25, i25, c26]
                rw [hR13]
                refine ⟨rfl, ?_⟩
                intro hr
                subst hr
                subst hQ
                simp -implicitDefEqProofs only [go_sem, Nat.reduceEqDiff, Nat.reduceAdd, Nat.reduceLT, Nat.reduceLeDiff, Nat.reduceMul, Nat.reduceBEq, reduceIte, gi6, i6, c7, c10, gi13, i13, c15, gi25, i25, c26, Try.results6]
              · simp -implicitDefEqProofs only [go_sem, Nat.reduceEqDiff, Nat.reduceAdd, Nat.reduceLT, Nat.reduceLeDiff, Nat.reduceMul, Nat.reduceBEq, reduceIte, gi6, i6, c7, c10, gi13, i13, c15, gi25, i25, c26]
                obtain ⟨z29, hL29, h⟩ := bs h
                obtain ⟨I29, hI29⟩ : ∃ I : Int → St → Prop, I = fun v30 s => s.G = cut d G ∧ s.F 3 = .p (.sl (r9.1.map cTTerm)) ∧ s.F 4 = .p (.sl (r9.2.1.map cii64)) ∧ s.F 6 = .p (.int .i64 v14) ∧ s.F 7 = .p (.int .i64 v30) ∧ True := ⟨_, rfl⟩
                obtain ⟨R29, hR29⟩ : ∃ R : ((Unit) ⊕ (Bool)) → GE → St → Prop, R = fun x e s => match x with | .inl _ => e = .exit 2 ∧ s.G = cut d G ∧ s.F 3 = .p (.sl (r9.1.map cTTerm)) ∧ s.F 4 = .p (.sl (r9.2.1.map cii64)) ∧ s.F 6 = .p (.int .i64 v14) ∧ True | .inr r => e = .ret ∧ (r = r0 → Q .ret s) := ⟨_, rfl⟩
                refine lp (ts := [8]) rfl hL29 I29 R29 ?_ ?_ ?_
                · rw [hI29]
                  simp -implicitDefEqProofs only [go_sem, Nat.reduceEqDiff, Nat.reduceAdd, Nat.reduceLT, Nat.reduceLeDiff, Nat.reduceMul, Nat.reduceBEq, reduceIte, gi6, i6, c7, c10, gi13, i13, c15, gi25, i25, c26]
                · clear h hL29
                  rintro v30 y s h i
                  rw [hI29] at i
                  obtain ⟨gi29, i29⟩ := i
                  replace h : m_law03_GaussPivots_L1 r9 v14 (v30) = some y := h
                  unfold m_law03_GaussPivots_L1 at h
                  rcases ib h with ⟨c31, h⟩ | ⟨c31, h⟩
                  · simp -implicitDefEqProofs only [go_sem, Nat.reduceEqDiff, Nat.reduceAdd, Nat.reduceLT, Nat.reduceLeDiff, Nat.reduceMul, Nat.reduceBEq, reduceIte, gi6, i6, c7, c10, gi13, i13, c15, gi25, i25, c26, gi29, i29, c31]
                    obtain ⟨v32, hz, h⟩ := bs h
                    obtain ⟨R33, hR33⟩ : ∃ R : St → Prop, R = fun s => s.G = fillKey (cut d G) (d + 1) 8 [.box [.p (.int .i64 v32), .p (.int .i64 1)]] ∧ s.F 3 = .p (.sl (r9.1.map cTTerm)) ∧ s.F 4 = .p (.sl (r9.2.1.map cii64)) ∧ s.F 6 = .p (.int .i64 v14) ∧ s.F 7 = .p (.int .i64 v30) ∧ s.F 8 = .bp (d + 1, 8, 0) 0 ∧ True := ⟨_, rfl⟩
                    refine cutG R33 ?_ ?_
                    · replace h := hz
                      rcases ib h with ⟨c34, h⟩ | ⟨c34, h⟩
                      · cases h
                        simp -implicitDefEqProofs only [go_sem, Nat.reduceEqDiff, Nat.reduceAdd, Nat.reduceLT, Nat.reduceLeDiff, Nat.reduceMul, Nat.reduceBEq, reduceIte, gi6, i6, c7, c10, gi13, i13, c15, gi25, i25, c26, gi29, i29, c31, c34]
                        rw [hR33]
                        simp -implicitDefEqProofs only [go_sem, Nat.reduceEqDiff, Nat.reduceAdd, Nat.reduceLT, Nat.reduceLeDiff, Nat.reduceMul, Nat.reduceBEq, reduceIte, gi6, i6, c7, c10, gi13, i13, c15, gi25, i25, c26, gi29, i29, c31, c34]
                      · cases h
                        simp -implicitDefEqProofs only [go_sem, Nat.reduceEqDiff, Nat.reduceAdd, Nat.reduceLT, Nat.reduceLeDiff, Nat.reduceMul, Nat.reduceBEq, reduceIte, gi6, i6, c7, c10, gi13, i13, c15, gi25, i25, c26, gi29, i29, c31, c34]
                        rw [hR33]
                        simp -implicitDefEqProofs only [go_sem, Nat.reduceEqDiff, Nat.reduceAdd, Nat.reduceLT, Nat.reduceLeDiff, Nat.reduceMul, Nat.reduceBEq, reduceIte, gi6, i6, c7, c10, gi13, i13, c15, gi25, i25, c26, gi29, i29, c31, c34]
                    · replace h := h; clear hz
                      rintro s i
                      rw [hR33] at i
                      obtain ⟨gi35, i35⟩ := i
                      clear hR33
                      try dsimp only at h
                      obtain ⟨v36, hv36, h⟩ := bs h
                      replace hv36 := gis hv36
                      obtain ⟨v37, hv37, h⟩ := bs h
                      replace hv37 := gis hv37
                      obtain ⟨r38, hr38, h⟩ := bs h
                      simp -implicitDefEqProofs only [go_sem, Nat.reduceEqDiff, Nat.reduceAdd, Nat.reduceLT, Nat.reduceLeDiff, Nat.reduceMul, Nat.reduceBEq, reduceIte, gi6, i6, c7, c10, gi13, i13, c15, gi25, i25, c26, gi29, i29, c31, gi35, i35, hv36, hv37]
                      refine call_frz (r' := .agg [.p (.int .i64 r38.f0), .p (.int .i64 r38.f1)]) (m_ref02_At_ev v36 v37 r38 hr38 (d + 1) empty) (by simp -implicitDefEqProofs only [go_sem, Nat.reduceEqDiff, Nat.reduceAdd, Nat.reduceLT, Nat.reduceLeDiff, Nat.reduceMul, Nat.reduceBEq, reduceIte, gi6, i6, c7, c10, gi13, i13, c15, gi25, i25, c26, gi29, i29, c31, gi35, i35, hv36, hv37]) rfl (by simp -implicitDefEqProofs only [go_sem, Nat.reduceEqDiff, Nat.reduceAdd, Nat.reduceLT, Nat.reduceLeDiff, Nat.reduceMul, Nat.reduceBEq, reduceIte]) (by simp -implicitDefEqProofs only [go_sem, Nat.reduceEqDiff, Nat.reduceAdd, Nat.reduceLT, Nat.reduceLeDiff, Nat.reduceMul, Nat.reduceBEq, reduceIte]) ?_ rfl rfl
                      simp -implicitDefEqProofs only [go_sem, Nat.reduceEqDiff, Nat.reduceAdd, Nat.reduceLT, Nat.reduceLeDiff, Nat.reduceMul, Nat.reduceBEq, reduceIte, gi6, i6, c7, c10, gi13, i13, c15, gi25, i25, c26, gi29, i29, c31, gi35, i35, hv36, hv37]
                      refine eqS_TRat r38 (⟨v32, 1⟩ : TRat) ?_
                      rcases ib h with ⟨c39, h⟩ | ⟨c39, h⟩
                      · cases h
                        simp -implicitDefEqProofs only [go_sem, Nat.reduceEqDiff, Nat.reduceAdd, Nat.reduceLT, Nat.reduceLeDiff, Nat.reduceMul, Nat.reduceBEq, reduceIte, gi6, i6, c7, c10, gi13, i13, c15, gi25, i25, c26, gi29, i29, c31, gi35, i35, hv36, hv37, c39]
                        rw [hR29]
                        refine ⟨rfl, ?_⟩
                        intro hr
                        subst hr
                        subst hQ
                        simp -implicitDefEqProofs only [go_sem, Nat.reduceEqDiff, Nat.reduceAdd, Nat.reduceLT, Nat.reduceLeDiff, Nat.reduceMul, Nat.reduceBEq, reduceIte, gi6, i6, c7, c10, gi13, i13, c15, gi25, i25, c26, gi29, i29, c31, gi35, i35, hv36, hv37, c39, Try.results6]
                      · cases h
                        simp -implicitDefEqProofs only [go_sem, Nat.reduceEqDiff, Nat.reduceAdd, Nat.reduceLT, Nat.reduceLeDiff, Nat.reduceMul, Nat.reduceBEq, reduceIte, gi6, i6, c7, c10, gi13, i13, c15, gi25, i25, c26, gi29, i29, c31, gi35, i35, hv36, hv37, c39]
                        rw [hI29]
                        simp -implicitDefEqProofs only [go_sem, Nat.reduceEqDiff, Nat.reduceAdd, Nat.reduceLT, Nat.reduceLeDiff, Nat.reduceMul, Nat.reduceBEq, reduceIte, gi6, i6, c7, c10, gi13, i13, c15, gi25, i25, c26, gi29, i29, c31, gi35, i35, hv36, hv37, c39]
                  · cases h
                    simp -implicitDefEqProofs only [go_sem, Nat.reduceEqDiff, Nat.reduceAdd, Nat.reduceLT, Nat.reduceLeDiff, Nat.reduceMul, Nat.reduceBEq, reduceIte, gi6, i6, c7, c10, gi13, i13, c15, gi25, i25, c26, gi29, i29, c31]
                    rw [hR29]
                    first | refine ⟨rfl, ?_⟩ | refine ⟨(), rfl, ?_⟩
                    simp -implicitDefEqProofs only [go_sem, Nat.reduceEqDiff, Nat.reduceAdd, Nat.reduceLT, Nat.reduceLeDiff, Nat.reduceMul, Nat.reduceBEq, reduceIte, gi6, i6, c7, c10, gi13, i13, c15, gi25, i25, c26, gi29, i29, c31]
                · clear hL29 hI29
                  intro e s hr29
                  rw [hR29] at hr29
                  clear hR29
                  rcases z29 with _ | r
                  · try dsimp only at h hr29
                    obtain ⟨rfl, gi40, i40⟩ := hr29
                    cases h
                    simp -implicitDefEqProofs only [go_sem, Nat.reduceEqDiff, Nat.reduceAdd, Nat.reduceLT, Nat.reduceLeDiff, Nat.reduceMul, Nat.reduceBEq, reduceIte, gi6, i6, c7, c10, gi13, i13, c15, gi25, i25, c26, gi40, i40]
                    rw [hI13]
                    simp -implicitDefEqProofs only [go_sem, Nat.reduceEqDiff, Nat.reduceAdd, Nat.reduceLT, Nat.reduceLeDiff, Nat.reduceMul, Nat.reduceBEq, reduceIte, gi6, i6, c7, c10, gi13, i13, c15, gi25, i25, c26, gi40, i40]
                  · try dsimp only at h hr29
                    obtain ⟨rfl, hr29⟩ := hr29
                    cases h
                    try simp -implicitDefEqProofs only [go_sem, Nat.reduceEqDiff, Nat.reduceAdd, Nat.reduceLT, Nat.reduceLeDiff, Nat.reduceMul, Nat.reduceBEq, reduceIte]
                    rw [hR13]
                    exact ⟨rfl, hr29⟩
          · cases h
            simp -implicitDefEqProofs only [go_sem, Nat.reduceEqDiff, Nat.reduceAdd, Nat.reduceLT, Nat.reduceLeDiff, Nat.reduceMul, Nat.reduceBEq, reduceIte, gi6, i6, c7, c10, gi13, i13, c15]
            rw [hR13]
            first | refine ⟨rfl, ?_⟩ | refine ⟨(), rfl, ?_⟩
            simp -implicitDefEqProofs only [go_sem, Nat.reduceEqDiff, Nat.reduceAdd, Nat.reduceLT, Nat.reduceLeDiff, Nat.reduceMul, Nat.reduceBEq, reduceIte, gi6, i6, c7, c10, gi13, i13, c15]
        · clear hL13 hI13
          intro e s hr13
          rw [hR13] at hr13
          clear hR13
          rcases z13 with _ | r
          · try dsimp only at h hr13
            obtain ⟨rfl, gi41, i41⟩ := hr13
            cases h
            subst hQ
            simp -implicitDefEqProofs only [go_sem, Nat.reduceEqDiff, Nat.reduceAdd, Nat.reduceLT, Nat.reduceLeDiff, Nat.reduceMul, Nat.reduceBEq, reduceIte, gi6, i6, c7, c10, gi41, i41, Try.results6]
          · try dsimp only at h hr13
            obtain ⟨rfl, hr13⟩ := hr13
            cases h
            try simp -implicitDefEqProofs only [go_sem, Nat.reduceEqDiff, Nat.reduceAdd, Nat.reduceLT, Nat.reduceLeDiff, Nat.reduceMul, Nat.reduceBEq, reduceIte]
            exact hr13 rfl
theorem m_law03_GaussOrder_ev (a0 : List TTerm) (a1 : Int) (r0 : Bool) (h : m_law03_GaussOrder a0 a1 = some r0) (d : Nat) (G : Heap) : Tel Try.prog TB d 7 [.p (.sl (a0.map cTTerm)), .p (.int .u8 a1)] G (.p (.bool r0)) (G) := by
  unfold m_law03_GaussOrder at h
  refine Tel.intro mix Try.func7 rfl (Nat.le_of_ble_eq_true rfl) {frzAt := fun t => t == 13 || t == 17 || t == 25 || t == 42 || t == 48 || t == 64 || t == 69, boxAt := fun t => if t = 1000035 then some 35 else none} (by kernel_rfl) (by kernel_rfl) ?_
  generalize hQ : callPost _ _ _ _ _ = Q
  obtain ⟨r1, hr1, h⟩ := bs h
  simp -implicitDefEqProofs only [go_sem, Nat.reduceEqDiff, Nat.reduceAdd, Nat.reduceLT, Nat.reduceLeDiff, Nat.reduceMul, Nat.reduceBEq, reduceIte]
  refine call_frz (r' := .p (.bool r1)) (args := []) (caps := []) (m_law03_awake_ev  r1 hr1 (d + 1) empty) (wkRs_refl []) rfl (by simp -implicitDefEqProofs only [go_sem, Nat.reduceEqDiff, Nat.reduceAdd, Nat.reduceLT, Nat.reduceLeDiff, Nat.reduceMul, Nat.reduceBEq, reduceIte]) (by simp -implicitDefEqProofs only [go_sem, Nat.reduceEqDiff, Nat.reduceAdd, Nat.reduceLT, Nat.reduceLeDiff, Nat.reduceMul, Nat.reduceBEq, reduceIte]) ?_ rfl rfl
  simp -implicitDefEqProofs only [go_sem, Nat.reduceEqDiff, Nat.reduceAdd, Nat.reduceLT, Nat.reduceLeDiff, Nat.reduceMul, Nat.reduceBEq, reduceIte]
  obtain ⟨v2, hz, h⟩ := bs h
  obtain ⟨R3, hR3⟩ : ∃ R : St → Prop, R = fun s => s.G = cut d G ∧ s.F 0 = .p (.sl (a0.map cTTerm)) ∧ s.F 1 = .p (.int .u8 a1) ∧ s.F 24 = .p (.bool v2) ∧ True := ⟨_, rfl⟩
  refine cutR R3 ?_ ?_
  · replace h := hz
    rcases ib h with ⟨c4, h⟩ | ⟨c4, h⟩
    · cases h
      simp -implicitDefEqProofs only [go_sem, Nat.reduceEqDiff, Nat.reduceAdd, Nat.reduceLT, Nat.reduceLeDiff, Nat.reduceMul, Nat.reduceBEq, reduceIte, c4]
      rw [hR3]
      simp -implicitDefEqProofs only [go_sem, Nat.reduceEqDiff, Nat.reduceAdd, Nat.reduceLT, Nat.reduceLeDiff, Nat.reduceMul, Nat.reduceBEq, reduceIte, c4]
    · obtain ⟨r5, hr5, h⟩ := bs h
      simp -implicitDefEqProofs only [go_sem, Nat.reduceEqDiff, Nat.reduceAdd, Nat.reduceLT, Nat.reduceLeDiff, Nat.reduceMul, Nat.reduceBEq, reduceIte, c4]
      refine call_frz (r' := .p (.bool r5)) (m_law03_small_ev a0 r5 hr5 (d + 1) empty) (by simp -implicitDefEqProofs only [go_sem, Nat.reduceEqDiff, Nat.reduceAdd, Nat.reduceLT, Nat.reduceLeDiff, Nat.reduceMul, Nat.reduceBEq, reduceIte, c4]) rfl (by simp -implicitDefEqProofs only [go_sem, Nat.reduceEqDiff, Nat.reduceAdd, Nat.reduceLT, Nat.reduceLeDiff, Nat.reduceMul, Nat.reduceBEq, reduceIte]) (by simp -implicitDefEqProofs only [go_sem, Nat.reduceEqDiff, Nat.reduceAdd, Nat.reduceLT, Nat.reduceLeDiff, Nat.reduceMul, Nat.reduceBEq, reduceIte]) ?_ rfl rfl
      rcases ib h with ⟨c6, h⟩ | ⟨c6, h⟩
      · cases h
        simp -implicitDefEqProofs only [go_sem, Nat.reduceEqDiff, Nat.reduceAdd, Nat.reduceLT, Nat.reduceLeDiff, Nat.reduceMul, Nat.reduceBEq, reduceIte, c4, c6]
        rw [hR3]
        simp -implicitDefEqProofs only [go_sem, Nat.reduceEqDiff, Nat.reduceAdd, Nat.reduceLT, Nat.reduceLeDiff, Nat.reduceMul, Nat.reduceBEq, reduceIte, c4, c6]
      · cases h
        simp -implicitDefEqProofs only [go_sem, Nat.reduceEqDiff, Nat.reduceAdd, Nat.reduceLT, Nat.reduceLeDiff, Nat.reduceMul, Nat.reduceBEq, reduceIte, c4, c6]
        rw [hR3]
        simp -implicitDefEqProofs only [go_sem, Nat.reduceEqDiff, Nat.reduceAdd, Nat.reduceLT, Nat.reduceLeDiff, Nat.reduceMul, Nat.reduceBEq, reduceIte, c4, c6]
  · replace h := h; clear hz
    rintro s i
    rw [hR3] at i
    obtain ⟨gi7, i7⟩ := i
    clear hR3
    try dsimp only at h
    rcases ib h with ⟨c8, h⟩ | ⟨c8, h⟩
    · obtain ⟨r9, hr9, h⟩ := bs h
      simp -implicitDefEqProofs only [go_sem, Nat.reduceEqDiff, Nat.reduceAdd, Nat.reduceLT, Nat.reduceLeDiff, Nat.reduceMul, Nat.reduceBEq, reduceIte, gi7, i7, c8]
      try refine gCall_eta gi7 ?_
      refine call_frz (r' := .p (.bool r9)) (args := []) (caps := []) (m_law03_awake_ev  r9 hr9 (d + 1) empty) (wkRs_refl []) rfl (by simp -implicitDefEqProofs only [go_sem, Nat.reduceEqDiff, Nat.reduceAdd, Nat.reduceLT, Nat.reduceLeDiff, Nat.reduceMul, Nat.reduceBEq, reduceIte]) (by simp -implicitDefEqProofs only [go_sem, Nat.reduceEqDiff, Nat.reduceAdd, Nat.reduceLT, Nat.reduceLeDiff, Nat.reduceMul, Nat.reduceBEq, reduceIte]) ?_ rfl rfl
      cases h
      subst hQ
      simp -implicitDefEqProofs only [go_sem, Nat.reduceEqDiff, Nat.reduceAdd, Nat.reduceLT, Nat.reduceLeDiff, Nat.reduceMul, Nat.reduceBEq, reduceIte, gi7, i7, c8, Try.results7]
    · obtain ⟨_, c10, h⟩ := bs h
      replace c10 := rqs c10
      obtain ⟨v11, hv11, h⟩ := bs h
      replace hv11 := subLs hv11
      obtain ⟨_, c12, h⟩ := bs h
      replace c12 := rqs c12
      simp -implicitDefEqProofs only [go_sem, Nat.reduceEqDiff, Nat.reduceAdd, Nat.reduceLT, Nat.reduceLeDiff, Nat.reduceMul, Nat.reduceBEq, reduceIte, gi7, i7, c8, c10, hv11, c12]
      refine append_G (o := none) (ts := [35]) (es := (([] : List TTerm) : List TTerm).map cTTerm) (xs := (v11 : List TTerm).map cTTerm) (ho := by simp -implicitDefEqProofs only [go_sem, Nat.reduceEqDiff, Nat.reduceAdd, Nat.reduceLT, Nat.reduceLeDiff, Nat.reduceMul, Nat.reduceBEq, reduceIte]) (hG := by simp -implicitDefEqProofs only [go_sem, Nat.reduceEqDiff, Nat.reduceAdd, Nat.reduceLT, Nat.reduceLeDiff, Nat.reduceMul, Nat.reduceBEq, reduceIte, gi7, i7, c8, c10, hv11, c12]) (hj := by simp -implicitDefEqProofs only [go_sem, Nat.reduceEqDiff, Nat.reduceAdd, Nat.reduceLT, Nat.reduceLeDiff, Nat.reduceMul, Nat.reduceBEq, reduceIte]) (he := el22) (hx := by simp -implicitDefEqProofs only [go_sem, Nat.reduceEqDiff, Nat.reduceAdd, Nat.reduceLT, Nat.reduceLeDiff, Nat.reduceMul, Nat.reduceBEq, reduceIte, gi7, i7, c8, c10, hv11, c12]) (h1 := by simp -implicitDefEqProofs only [go_sem, Nat.reduceEqDiff, Nat.reduceAdd, Nat.reduceLT, Nat.reduceLeDiff, Nat.reduceMul, Nat.reduceBEq, reduceIte]) (h2 := by simp -implicitDefEqProofs only [go_sem, Nat.reduceEqDiff, Nat.reduceAdd, Nat.reduceLT, Nat.reduceLeDiff, Nat.reduceMul, Nat.reduceBEq, reduceIte]) (ha := rfl) (hra := rfl) (hb := by simpa using c12) (hbb := by decide) ?_
      intro o13 ko13
      obtain ⟨v14, hv14, h⟩ := bs h
      replace hv14 := subLs hv14
      obtain ⟨_, c15, h⟩ := bs h
      replace c15 := rqs c15
      simp -implicitDefEqProofs only [go_sem, Nat.reduceEqDiff, Nat.reduceAdd, Nat.reduceLT, Nat.reduceLeDiff, Nat.reduceMul, Nat.reduceBEq, reduceIte, gi7, i7, c8, c10, hv11, c12, ko13, hv14, c15]
      refine append_G (o := o13) (ts := [35, 39]) (es := ((([] : List TTerm) ++ v11) : List TTerm).map cTTerm) (xs := (v14 : List TTerm).map cTTerm) (ho := growOK.sub ko13 (by decide)) (hG := by simp -implicitDefEqProofs only [go_sem, Nat.reduceEqDiff, Nat.reduceAdd, Nat.reduceLT, Nat.reduceLeDiff, Nat.reduceMul, Nat.reduceBEq, reduceIte, gi7, i7, c8, c10, hv11, c12, ko13, hv14, c15, growO_out (t := 39) ko13 (by decide)]) (hj := by simp -implicitDefEqProofs only [go_sem, Nat.reduceEqDiff, Nat.reduceAdd, Nat.reduceLT, Nat.reduceLeDiff, Nat.reduceMul, Nat.reduceBEq, reduceIte]) (he := el22) (hx := by simp -implicitDefEqProofs only [go_sem, Nat.reduceEqDiff, Nat.reduceAdd, Nat.reduceLT, Nat.reduceLeDiff, Nat.reduceMul, Nat.reduceBEq, reduceIte, gi7, i7, c8, c10, hv11, c12, ko13, hv14, c15]) (h1 := by simp -implicitDefEqProofs only [go_sem, Nat.reduceEqDiff, Nat.reduceAdd, Nat.reduceLT, Nat.reduceLeDiff, Nat.reduceMul, Nat.reduceBEq, reduceIte]) (h2 := by simp -implicitDefEqProofs only [go_sem, Nat.reduceEqDiff, Nat.reduceAdd, Nat.reduceLT, Nat.reduceLeDiff, Nat.reduceMul, Nat.reduceBEq, reduceIte]) (ha := rfl) (hra := rfl) (hb := by simpa using c15) (hbb := by decide) ?_
      intro o16 ko16
      obtain ⟨r17, hr17, h⟩ := bs h
      simp -implicitDefEqProofs only [go_sem, Nat.reduceEqDiff, Nat.reduceAdd, Nat.reduceLT, Nat.reduceLeDiff, Nat.reduceMul, Nat.reduceBEq, reduceIte, gi7, i7, c8, c10, hv11, c12, ko13, hv14, c15, ko16]
      refine call_frz (r' := .tup [.p (.sl (r17.1.map cTTerm)), .p (.sl (r17.2.1.map cii64)), .p (.int .i64 r17.2.2)]) (m_gauss_Solve_ev a0 r17 hr17 (d + 1) empty) (by simp -implicitDefEqProofs only [go_sem, Nat.reduceEqDiff, Nat.reduceAdd, Nat.reduceLT, Nat.reduceLeDiff, Nat.reduceMul, Nat.reduceBEq, reduceIte, gi7, i7, c8, c10, hv11, c12, ko13, hv14, c15, ko16]) rfl (by simp -implicitDefEqProofs only [go_sem, Nat.reduceEqDiff, Nat.reduceAdd, Nat.reduceLT, Nat.reduceLeDiff, Nat.reduceMul, Nat.reduceBEq, reduceIte]) (by simp -implicitDefEqProofs only [go_sem, Nat.reduceEqDiff, Nat.reduceAdd, Nat.reduceLT, Nat.reduceLeDiff, Nat.reduceMul, Nat.reduceBEq, reduceIte]) ?_ rfl rfl
      obtain ⟨r18, hr18, h⟩ := bs h
      simp -implicitDefEqProofs only [go_sem, Nat.reduceEqDiff, Nat.reduceAdd, Nat.reduceLT, Nat.reduceLeDiff, Nat.reduceMul, Nat.reduceBEq, reduceIte, gi7, i7, c8, c10, hv11, c12, ko13, hv14, c15, ko16]
      refine call_frz (r' := .tup [.p (.sl (r18.1.map cTTerm)), .p (.sl (r18.2.1.map cii64)), .p (.int .i64 r18.2.2)]) (m_gauss_Solve_ev ((([] : List TTerm) ++ v11) ++ v14) r18 hr18 (d + 1) empty) (by simp -implicitDefEqProofs only [go_sem, Nat.reduceEqDiff, Nat.reduceAdd, Nat.reduceLT, Nat.reduceLeDiff, Nat.reduceMul, Nat.reduceBEq, reduceIte, gi7, i7, c8, c10, hv11, c12, ko13, hv14, c15, ko16]) rfl (by simp -implicitDefEqProofs only [go_sem, Nat.reduceEqDiff, Nat.reduceAdd, Nat.reduceLT, Nat.reduceLeDiff, Nat.reduceMul, Nat.reduceBEq, reduceIte]) (by simp -implicitDefEqProofs only [go_sem, Nat.reduceEqDiff, Nat.reduceAdd, Nat.reduceLT, Nat.reduceLeDiff, Nat.reduceMul, Nat.reduceBEq, reduceIte]) ?_ rfl rfl
      simp -implicitDefEqProofs only [go_sem, Nat.reduceEqDiff, Nat.reduceAdd, Nat.reduceLT, Nat.reduceLeDiff, Nat.reduceMul, Nat.reduceBEq, reduceIte, gi7, i7, c8, c10, hv11, c12, ko13, hv14, c15, ko16]
      obtain ⟨v19, hz, h⟩ := bs h
      obtain ⟨R20, hR20⟩ : ∃ R : St → Prop, R = fun s => s.G = fillKey (fillKey (cut d G) (d + 1) 35 (growO o16 35 3 (((([] : List TTerm) ++ v11) ++ v14).map cTTerm))) (d + 1) 39 (growO o16 39 3 (((([] : List TTerm) ++ v11) ++ v14).map cTTerm)) ∧ s.F 7 = .p (.sl (r17.1.map cTTerm)) ∧ s.F 8 = .p (.sl (r17.2.1.map cii64)) ∧ s.F 9 = .p (.int .i64 r17.2.2) ∧ s.F 10 = .p (.sl (r18.1.map cTTerm)) ∧ s.F 11 = .p (.sl (r18.2.1.map cii64)) ∧ s.F 12 = .p (.int .i64 r18.2.2) ∧ s.F 57 = .p (.bool v19) ∧ True := ⟨_, rfl⟩
      refine cutR R20 ?_ ?_
      · replace h := hz
        rcases ib h with ⟨c21, h⟩ | ⟨c21, h⟩
        · cases h
          simp -implicitDefEqProofs only [go_sem, Nat.reduceEqDiff, Nat.reduceAdd, Nat.reduceLT, Nat.reduceLeDiff, Nat.reduceMul, Nat.reduceBEq, reduceIte, gi7, i7, c8, c10, hv11, c12, ko13, hv14, c15, ko16, c21]
          rw [hR20]
          simp -implicitDefEqProofs only [go_sem, Nat.reduceEqDiff, Nat.reduceAdd, Nat.reduceLT, Nat.reduceLeDiff, Nat.reduceMul, Nat.reduceBEq, reduceIte, gi7, i7, c8, c10, hv11, c12, ko13, hv14, c15, ko16, c21]
        · cases h
          simp -implicitDefEqProofs only [go_sem, Nat.reduceEqDiff, Nat.reduceAdd, Nat.reduceLT, Nat.reduceLeDiff, Nat.reduceMul, Nat.reduceBEq, reduceIte, gi7, i7, c8, c10, hv11, c12, ko13, hv14, c15, ko16, c21]
          rw [hR20]
          simp -implicitDefEqProofs only [go_sem, Nat.reduceEqDiff, Nat.reduceAdd, Nat.reduceLT, Nat.reduceLeDiff, Nat.reduceMul, Nat.reduceBEq, reduceIte, gi7, i7, c8, c10, hv11, c12, ko13, hv14, c15, ko16, c21]
      · replace h := h; clear hz
        rintro s i
        rw [hR20] at i
        obtain ⟨gi22, i22⟩ := i
        clear hR20
        try dsimp only at h
        rcases ib h with ⟨c23, h⟩ | ⟨c23, h⟩
        · cases h
          subst hQ
          simp -implicitDefEqProofs only [go_sem, Nat.reduceEqDiff, Nat.reduceAdd, Nat.reduceLT, Nat.reduceLeDiff, Nat.reduceMul, Nat.reduceBEq, reduceIte, gi7, i7, c8, c10, hv11, c12, ko13, hv14, c15, ko16, gi22, i22, c23, Try.results7]
        · rcases ib h with ⟨c24, h⟩ | ⟨c24, h⟩
          · obtain ⟨r25, hr25, h⟩ := bs h
            simp -implicitDefEqProofs only [go_sem, Nat.reduceEqDiff, Nat.reduceAdd, Nat.reduceLT, Nat.reduceLeDiff, Nat.reduceMul, Nat.reduceBEq, reduceIte, gi7, i7, c8, c10, hv11, c12, ko13, hv14, c15, ko16, gi22, i22, c23, c24]
            refine call_frz (r' := .p (.bool r25)) (m_ref03_Ints_ev r17.2.1 r18.2.1 r25 hr25 (d + 1) empty) (by simp -implicitDefEqProofs only [go_sem, Nat.reduceEqDiff, Nat.reduceAdd, Nat.reduceLT, Nat.reduceLeDiff, Nat.reduceMul, Nat.reduceBEq, reduceIte, gi7, i7, c8, c10, hv11, c12, ko13, hv14, c15, ko16, gi22, i22, c23, c24]) rfl (by simp -implicitDefEqProofs only [go_sem, Nat.reduceEqDiff, Nat.reduceAdd, Nat.reduceLT, Nat.reduceLeDiff, Nat.reduceMul, Nat.reduceBEq, reduceIte]) (by simp -implicitDefEqProofs only [go_sem, Nat.reduceEqDiff, Nat.reduceAdd, Nat.reduceLT, Nat.reduceLeDiff, Nat.reduceMul, Nat.reduceBEq, reduceIte]) ?_ rfl rfl
            rcases ib h with ⟨c26, h⟩ | ⟨c26, h⟩
            · obtain ⟨r27, hr27, h⟩ := bs h
              simp -implicitDefEqProofs only [go_sem, Nat.reduceEqDiff, Nat.reduceAdd, Nat.reduceLT, Nat.reduceLeDiff, Nat.reduceMul, Nat.reduceBEq, reduceIte, gi7, i7, c8, c10, hv11, c12, ko13, hv14, c15, ko16, gi22, i22, c23, c24, c26]
              refine call_frz (r' := .p (.bool r27)) (m_ref03_Same_ev r17.1 r18.1 r27 hr27 (d + 1) empty) (by simp -implicitDefEqProofs only [go_sem, Nat.reduceEqDiff, Nat.reduceAdd, Nat.reduceLT, Nat.reduceLeDiff, Nat.reduceMul, Nat.reduceBEq, reduceIte, gi7, i7, c8, c10, hv11, c12, ko13, hv14, c15, ko16, gi22, i22, c23, c24, c26]) rfl (by simp -implicitDefEqProofs only [go_sem, Nat.reduceEqDiff, Nat.reduceAdd, Nat.reduceLT, Nat.reduceLeDiff, Nat.reduceMul, Nat.reduceBEq, reduceIte]) (by simp -implicitDefEqProofs only [go_sem, Nat.reduceEqDiff, Nat.reduceAdd, Nat.reduceLT, Nat.reduceLeDiff, Nat.reduceMul, Nat.reduceBEq, reduceIte]) ?_ rfl rfl
              cases h
              subst hQ
              simp -implicitDefEqProofs only [go_sem, Nat.reduceEqDiff, Nat.reduceAdd, Nat.reduceLT, Nat.reduceLeDiff, Nat.reduceMul, Nat.reduceBEq, reduceIte, gi7, i7, c8, c10, hv11, c12, ko13, hv14, c15, ko16, gi22, i22, c23, c24, c26, Try.results7]
            · cases h
              subst hQ
              simp -implicitDefEqProofs only [go_sem, Nat.reduceEqDiff, Nat.reduceAdd, Nat.reduceLT, Nat.reduceLeDiff, Nat.reduceMul, Nat.reduceBEq, reduceIte, gi7, i7, c8, c10, hv11, c12, ko13, hv14, c15, ko16, gi22, i22, c23, c24, c26, Try.results7]
          · cases h
            subst hQ
            simp -implicitDefEqProofs only [go_sem, Nat.reduceEqDiff, Nat.reduceAdd, Nat.reduceLT, Nat.reduceLeDiff, Nat.reduceMul, Nat.reduceBEq, reduceIte, gi7, i7, c8, c10, hv11, c12, ko13, hv14, c15, ko16, gi22, i22, c23, c24, Try.results7]
end Go.E
