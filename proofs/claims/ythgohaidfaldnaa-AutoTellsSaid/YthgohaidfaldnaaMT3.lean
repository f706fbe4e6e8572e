import Derived.Test.YthgohaidfaldnaaMT2
set_option linter.all false
set_option maxRecDepth 100000
namespace Go.E
open Go Go.Proofs Go.Eng
variable {TB : Nat → Option Obj}
theorem m_law09_AutoWrong_ev (a0 : TProto) (r0 : Bool) (h : m_law09_AutoWrong a0 = some r0) (d : Nat) (G : Heap) : Tel Try.prog TB d 3 [.agg ((cTProto a0).map .p)] G (.p (.bool r0)) G := by
  unfold m_law09_AutoWrong at h
  refine Tel.intro mix Try.func3 rfl (Nat.le_of_ble_eq_true rfl) {frzAt := fun t => t == 9 || t == 13 || t == 16 || t == 19 || t == 24 || t == 29 || t == 59 || t == 61} (by kernel_rfl) (by kernel_rfl) ?_
  generalize hQ : callPost _ _ _ _ _ = Q
  obtain ⟨r1, hr1, h⟩ := bs h
  simp -implicitDefEqProofs only [go_sem, Nat.reduceEqDiff, Nat.reduceAdd, Nat.reduceLT, Nat.reduceLeDiff, Nat.reduceMul, Nat.reduceBEq, reduceIte]
  refine call_frz (r' := .p (.bool r1)) (args := []) (caps := []) (m_law09_awake_ev  r1 hr1 (d + 1) empty) (wkRs_refl []) rfl (by simp -implicitDefEqProofs only [go_sem, Nat.reduceEqDiff, Nat.reduceAdd, Nat.reduceLT, Nat.reduceLeDiff, Nat.reduceMul, Nat.reduceBEq, reduceIte]) (by simp -implicitDefEqProofs only [go_sem, Nat.reduceEqDiff, Nat.reduceAdd, Nat.reduceLT, Nat.reduceLeDiff, Nat.reduceMul, Nat.reduceBEq, reduceIte]) ?_ rfl rfl
  simp -implicitDefEqProofs only [go_sem, Nat.reduceEqDiff, Nat.reduceAdd, Nat.reduceLT, Nat.reduceLeDiff, Nat.reduceMul, Nat.reduceBEq, reduceIte]
  obtain ⟨v2, hz, h⟩ := bs h
  obtain ⟨R3, hR3⟩ : ∃ R : St → Prop, R = fun s => s.G = fillKey (cut d G) (d + 1) 1 [.box [.p (.str a0.f0), .p (.sl (a0.f1.map cTState)), .p (.sl (a0.f2.map cTMove))]] ∧ s.F 1 = .bp (d + 1, 1, 0) 0 ∧ s.F 15 = .p (.bool v2) ∧ True := ⟨_, rfl⟩
  refine cutR R3 ?_ ?_
  · replace h := hz
    rcases ib h with ⟨c4, h⟩ | ⟨c4, h⟩
    · cases h
      simp -implicitDefEqProofs only [go_sem, Nat.reduceEqDiff, Nat.reduceAdd, Nat.reduceLT, Nat.reduceLeDiff, Nat.reduceMul, Nat.reduceBEq, reduceIte, c4]
      rw [hR3]
      simp -implicitDefEqProofs only [go_sem, Nat.reduceEqDiff, Nat.reduceAdd, Nat.reduceLT, Nat.reduceLeDiff, Nat.reduceMul, Nat.reduceBEq, reduceIte, c4]
    · obtain ⟨r5, hr5, h⟩ := bs h
      simp -implicitDefEqProofs only [go_sem, Nat.reduceEqDiff, Nat.reduceAdd, Nat.reduceLT, Nat.reduceLeDiff, Nat.reduceMul, Nat.reduceBEq, reduceIte, c4]
      refine call_frz (r' := .p (.bool r5)) (m_ref09_Small_ev a0 r5 hr5 (d + 1) empty) (by simp -implicitDefEqProofs only [go_sem, Nat.reduceEqDiff, Nat.reduceAdd, Nat.reduceLT, Nat.reduceLeDiff, Nat.reduceMul, Nat.reduceBEq, reduceIte, c4]) rfl (by simp -implicitDefEqProofs only [go_sem, Nat.reduceEqDiff, Nat.reduceAdd, Nat.reduceLT, Nat.reduceLeDiff, Nat.reduceMul, Nat.reduceBEq, reduceIte]) (by simp -implicitDefEqProofs only [go_sem, Nat.reduceEqDiff, Nat.reduceAdd, Nat.reduceLT, Nat.reduceLeDiff, Nat.reduceMul, Nat.reduceBEq, reduceIte]) ?_ rfl rfl
      cases h
      simp -implicitDefEqProofs only [go_sem, Nat.reduceEqDiff, Nat.reduceAdd, Nat.reduceLT, Nat.reduceLeDiff, Nat.reduceMul, Nat.reduceBEq, reduceIte, c4]
      rw [hR3]
      simp -implicitDefEqProofs only [go_sem, Nat.reduceEqDiff, Nat.reduceAdd, Nat.reduceLT, Nat.reduceLeDiff, Nat.reduceMul, Nat.reduceBEq, reduceIte, c4]
  · replace h := h; clear hz
    rintro s i
    rw [hR3] at i
    obtain ⟨gi6, i6⟩ := i
    clear hR3
    try dsimp only at h
    rcases ib h with ⟨c7, h⟩ | ⟨c7, h⟩
    · obtain ⟨r8, hr8, h⟩ := bs h
      simp -implicitDefEqProofs only [go_sem, Nat.reduceEqDiff, Nat.reduceAdd, Nat.reduceLT, Nat.reduceLeDiff, Nat.reduceMul, Nat.reduceBEq, reduceIte, gi6, i6, c7]
      try refine gCall_eta gi6 ?_
      refine call_frz (r' := .p (.bool r8)) (args := []) (caps := []) (m_law09_awake_ev  r8 hr8 (d + 1) empty) (wkRs_refl []) rfl (by simp -implicitDefEqProofs only [go_sem, Nat.reduceEqDiff, Nat.reduceAdd, Nat.reduceLT, Nat.reduceLeDiff, Nat.reduceMul, Nat.reduceBEq, reduceIte]) (by simp -implicitDefEqProofs only [go_sem, Nat.reduceEqDiff, Nat.reduceAdd, Nat.reduceLT, Nat.reduceLeDiff, Nat.reduceMul, Nat.reduceBEq, reduceIte]) ?_ rfl rfl
      cases h
      subst hQ
      simp -implicitDefEqProofs only [go_sem, Nat.reduceEqDiff, Nat.reduceAdd, Nat.reduceLT, Nat.reduceLeDiff, Nat.reduceMul, Nat.reduceBEq, reduceIte, gi6, i6, c7, Try.results3]
    · obtain ⟨r9, hr9, h⟩ := bs h
      simp -implicitDefEqProofs only [go_sem, Nat.reduceEqDiff, Nat.reduceAdd, Nat.reduceLT, Nat.reduceLeDiff, Nat.reduceMul, Nat.reduceBEq, reduceIte, gi6, i6, c7]
      refine call_frz (r' := .tup [.p (.int .i64 r9.1), .p (.int .i64 r9.2)]) (m_auto_Wrong_ev a0 r9 hr9 (d + 1) empty) (by simp -implicitDefEqProofs only [go_sem, Nat.reduceEqDiff, Nat.reduceAdd, Nat.reduceLT, Nat.reduceLeDiff, Nat.reduceMul, Nat.reduceBEq, reduceIte, gi6, i6, c7]) rfl (by simp -implicitDefEqProofs only [go_sem, Nat.reduceEqDiff, Nat.reduceAdd, Nat.reduceLT, Nat.reduceLeDiff, Nat.reduceMul, Nat.reduceBEq, reduceIte]) (by simp -implicitDefEqProofs only [go_sem, Nat.reduceEqDiff, Nat.reduceAdd, Nat.reduceLT, Nat.reduceLeDiff, Nat.reduceMul, Nat.reduceBEq, reduceIte]) ?_ rfl rfl
      obtain ⟨r10, hr10, h⟩ := bs h
      simp -implicitDefEqProofs only [go_sem, Nat.reduceEqDiff, Nat.reduceAdd, Nat.reduceLT, Nat.reduceLeDiff, Nat.reduceMul, Nat.reduceBEq, reduceIte, gi6, i6, c7]
      refine call_frz (r' := .tup [.p (.int .i64 r10.1), .p (.int .i64 r10.2)]) (m_ref09_Wrong_ev a0 r10 hr10 (d + 1) empty) (by simp -implicitDefEqProofs only [go_sem, Nat.reduceEqDiff, Nat.reduceAdd, Nat.reduceLT, Nat.reduceLeDiff, Nat.reduceMul, Nat.reduceBEq, reduceIte, gi6, i6, c7]) rfl (by simp -implicitDefEqProofs only [go_sem, Nat.reduceEqDiff, Nat.reduceAdd, Nat.reduceLT, Nat.reduceLeDiff, Nat.reduceMul, Nat.reduceBEq, reduceIte]) (by simp -implicitDefEqProofs only [go_sem, Nat.reduceEqDiff, Nat.reduceAdd, Nat.reduceLT, Nat.reduceLeDiff, Nat.reduceMul, Nat.reduceBEq, reduceIte]) ?_ rfl rfl
      obtain ⟨r11, hr11, h⟩ := bs h
      simp -implicitDefEqProofs only [go_sem, Nat.reduceEqDiff, Nat.reduceAdd, Nat.reduceLT, Nat.reduceLeDiff, Nat.reduceMul, Nat.reduceBEq, reduceIte, gi6, i6, c7]
      refine call_frz (r' := .tup [.p (encP cTAuto_Auto r11.1), .p (.int .i64 r11.2)]) (m_auto_New_ev a0 r11 hr11 (d + 1) empty) (by simp -implicitDefEqProofs only [go_sem, Nat.reduceEqDiff, Nat.reduceAdd, Nat.reduceLT, Nat.reduceLeDiff, Nat.reduceMul, Nat.reduceBEq, reduceIte, gi6, i6, c7]) rfl (by simp -implicitDefEqProofs only [go_sem, Nat.reduceEqDiff, Nat.reduceAdd, Nat.reduceLT, Nat.reduceLeDiff, Nat.reduceMul, Nat.reduceBEq, reduceIte]) (by simp -implicitDefEqProofs only [go_sem, Nat.reduceEqDiff, Nat.reduceAdd, Nat.reduceLT, Nat.reduceLeDiff, Nat.reduceMul, Nat.reduceBEq, reduceIte]) ?_ rfl rfl
      rcases ib h with ⟨c12, h⟩ | ⟨c12, h⟩
      · rcases ib h with ⟨c13, h⟩ | ⟨c13, h⟩
        · rcases ib h with ⟨c14, h⟩ | ⟨c14, h⟩
          · rcases ib h with ⟨c15, h⟩ | ⟨c15, h⟩
            · rcases ib h with ⟨c16, h⟩ | ⟨c16, h⟩
              · simp only [c16, beq_tt, tt_beq, beq_ff, ff_beq, Bool.not_true, Bool.not_false, not_not_b, Bool.true_eq_false, Bool.false_eq_true] at c14
                cases h
                subst hQ
                simp -implicitDefEqProofs only [go_sem, Nat.reduceEqDiff, Nat.reduceAdd, Nat.reduceLT, Nat.reduceLeDiff, Nat.reduceMul, Nat.reduceBEq, reduceIte, gi6, i6, c7, c12, c13, c14, c15, c16, Try.results3]
              · simp only [c16, beq_tt, tt_beq, beq_ff, ff_beq, Bool.not_true, Bool.not_false, not_not_b, Bool.true_eq_false, Bool.false_eq_true] at c14
                simp only [c14, beq_tt, tt_beq, beq_ff, ff_beq, Bool.not_true, Bool.not_false, not_not_b, Bool.true_eq_false, Bool.false_eq_true] at c15
                obtain ⟨r17, hr17, h⟩ := bs h
                simp -implicitDefEqProofs only [go_sem, Nat.reduceEqDiff, Nat.reduceAdd, Nat.reduceLT, Nat.reduceLeDiff, Nat.reduceMul, Nat.reduceBEq, reduceIte, gi6, i6, c7, c12, c13, c14, c15, c16]
                refine call_frz (r' := .agg [.p (.str r17.f0), .p (.sl (r17.f1.map cTState)), .p (.sl (r17.f2.map cTMove))]) (m_auto_Auto_Proto_ev r11.1 r17 hr17 (d + 1) empty) (by simp -implicitDefEqProofs only [go_sem, Nat.reduceEqDiff, Nat.reduceAdd, Nat.reduceLT, Nat.reduceLeDiff, Nat.reduceMul, Nat.reduceBEq, reduceIte, gi6, i6, c7, c12, c13, c14, c15, c16]) rfl (by simp -implicitDefEqProofs only [go_sem, Nat.reduceEqDiff, Nat.reduceAdd, Nat.reduceLT, Nat.reduceLeDiff, Nat.reduceMul, Nat.reduceBEq, reduceIte]) (by simp -implicitDefEqProofs only [go_sem, Nat.reduceEqDiff, Nat.reduceAdd, Nat.reduceLT, Nat.reduceLeDiff, Nat.reduceMul, Nat.reduceBEq, reduceIte]) ?_ rfl rfl
                obtain ⟨r18, hr18, h⟩ := bs h
                simp -implicitDefEqProofs only [go_sem, Nat.reduceEqDiff, Nat.reduceAdd, Nat.reduceLT, Nat.reduceLeDiff, Nat.reduceMul, Nat.reduceBEq, reduceIte, gi6, i6, c7, c12, c13, c14, c15, c16]
                refine call_frz (r' := .p (.bool r18)) (m_ref09_Like_ev r17 a0 r18 hr18 (d + 1) empty) (by simp -implicitDefEqProofs only [go_sem, Nat.reduceEqDiff, Nat.reduceAdd, Nat.reduceLT, Nat.reduceLeDiff, Nat.reduceMul, Nat.reduceBEq, reduceIte, gi6, i6, c7, c12, c13, c14, c15, c16]) rfl (by simp -implicitDefEqProofs only [go_sem, Nat.reduceEqDiff, Nat.reduceAdd, Nat.reduceLT, Nat.reduceLeDiff, Nat.reduceMul, Nat.reduceBEq, reduceIte]) (by simp -implicitDefEqProofs only [go_sem, Nat.reduceEqDiff, Nat.reduceAdd, Nat.reduceLT, Nat.reduceLeDiff, Nat.reduceMul, Nat.reduceBEq, reduceIte]) ?_ rfl rfl
                cases h
                subst hQ
                simp -implicitDefEqProofs only [go_sem, Nat.reduceEqDiff, Nat.reduceAdd, Nat.reduceLT, Nat.reduceLeDiff, Nat.reduceMul, Nat.reduceBEq, reduceIte, gi6, i6, c7, c12, c13, c14, c15, c16, Try.results3]
            · cases h
              subst hQ
              simp -implicitDefEqProofs only [go_sem, Nat.reduceEqDiff, Nat.reduceAdd, Nat.reduceLT, Nat.reduceLeDiff, Nat.reduceMul, Nat.reduceBEq, reduceIte, gi6, i6, c7, c12, c13, c14, c15, Try.results3]
          · cases h
            subst hQ
            simp -implicitDefEqProofs only [go_sem, Nat.reduceEqDiff, Nat.reduceAdd, Nat.reduceLT, Nat.reduceLeDiff, Nat.reduceMul, Nat.reduceBEq, reduceIte, gi6, i6, c7, c12, c13, c14, Try.results3]
        · cases h
          subst hQ
          simp -implicitDefEqProofs only [go_sem, Nat.reduceEqDiff, Nat.reduceAdd, Nat.reduceLT, Nat.reduceLeDiff, Nat.reduceMul, Nat.reduceBEq, reduceIte, gi6, i6, c7, c12, c13, Try.results3]
      · cases h
        subst hQ
        simp -implicitDefEqProofs only [go_sem, Nat.reduceEqDiff, Nat.reduceAdd, Nat.reduceLT, Nat.reduceLeDiff, Nat.reduceMul, Nat.reduceBEq, reduceIte, gi6, i6, c7, c12, Try.results3]
theorem m_law09_AutoSteps_ev (a0 : TProto) (a1 : Int) (a2 : Int) (r0 : Bool) (h : m_law09_AutoSteps a0 a1 a2 = some r0) (d : Nat) (G : Heap) : Tel Try.prog TB d 4 [.agg ((cTProto a0).map .p), .p (.int .u32 a1), .p (.int .u32 a2)] G (.p (.bool r0)) G := by
  unfold m_law09_AutoSteps at h
  refine Tel.intro mix Try.func4 rfl (Nat.le_of_ble_eq_true rfl) {frzAt := fun t => t == 16 || t == 20 || t == 23 || t == 26 || t == 31 || t == 69 || t == 80 || t == 92 || t == 107 || t == 116 || t == 125 || t == 148 || t == 151, clean := fun r => if r = 10 then [12] else []} (by kernel_rfl) (by kernel_rfl) ?_
  generalize hQ : callPost _ _ _ _ _ = Q
  obtain ⟨r1, hr1, h⟩ := bs h
  simp -implicitDefEqProofs only [go_sem, Nat.reduceEqDiff, Nat.reduceAdd, Nat.reduceLT, Nat.reduceLeDiff, Nat.reduceMul, Nat.reduceBEq, reduceIte]
  refine call_frz (r' := .p (.bool r1)) (args := []) (caps := []) (m_law09_awake_ev  r1 hr1 (d + 1) empty) (wkRs_refl []) rfl (by simp -implicitDefEqProofs only [go_sem, Nat.reduceEqDiff, Nat.reduceAdd, Nat.reduceLT, Nat.reduceLeDiff, Nat.reduceMul, Nat.reduceBEq, reduceIte]) (by simp -implicitDefEqProofs only [go_sem, Nat.reduceEqDiff, Nat.reduceAdd, Nat.reduceLT, Nat.reduceLeDiff, Nat.reduceMul, Nat.reduceBEq, reduceIte]) ?_ rfl rfl
  simp -implicitDefEqProofs only [go_sem, Nat.reduceEqDiff, Nat.reduceAdd, Nat.reduceLT, Nat.reduceLeDiff, Nat.reduceMul, Nat.reduceBEq, reduceIte]
  obtain ⟨v2, hz, h⟩ := bs h
  obtain ⟨R3, hR3⟩ : ∃ R : St → Prop, R = fun s => s.G = fillKey (cut d G) (d + 1) 3 [.box [.p (.str a0.f0), .p (.sl (a0.f1.map cTState)), .p (.sl (a0.f2.map cTMove))]] ∧ s.F 1 = .p (.int .u32 a1) ∧ s.F 2 = .p (.int .u32 a2) ∧ s.F 3 = .bp (d + 1, 3, 0) 0 ∧ s.F 22 = .p (.bool v2) ∧ True := ⟨_, rfl⟩
  refine cutR R3 ?_ ?_
  · replace h := hz
    rcases ib h with ⟨c4, h⟩ | ⟨c4, h⟩
    · cases h
      simp -implicitDefEqProofs only [go_sem, Nat.reduceEqDiff, Nat.reduceAdd, Nat.reduceLT, Nat.reduceLeDiff, Nat.reduceMul, Nat.reduceBEq, reduceIte, c4]
      rw [hR3]
      simp -implicitDefEqProofs only [go_sem, Nat.reduceEqDiff, Nat.reduceAdd, Nat.reduceLT, Nat.reduceLeDiff, Nat.reduceMul, Nat.reduceBEq, reduceIte, c4]
    · obtain ⟨r5, hr5, h⟩ := bs h
      simp -implicitDefEqProofs only [go_sem, Nat.reduceEqDiff, Nat.reduceAdd, Nat.reduceLT, Nat.reduceLeDiff, Nat.reduceMul, Nat.reduceBEq, reduceIte, c4]
      refine call_frz (r' := .p (.bool r5)) (m_ref09_Small_ev a0 r5 hr5 (d + 1) empty) (by simp -implicitDefEqProofs only [go_sem, Nat.reduceEqDiff, Nat.reduceAdd, Nat.reduceLT, Nat.reduceLeDiff, Nat.reduceMul, Nat.reduceBEq, reduceIte, c4]) rfl (by simp -implicitDefEqProofs only [go_sem, Nat.reduceEqDiff, Nat.reduceAdd, Nat.reduceLT, Nat.reduceLeDiff, Nat.reduceMul, Nat.reduceBEq, reduceIte]) (by simp -implicitDefEqProofs only [go_sem, Nat.reduceEqDiff, Nat.reduceAdd, Nat.reduceLT, Nat.reduceLeDiff, Nat.reduceMul, Nat.reduceBEq, reduceIte]) ?_ rfl rfl
      cases h
      simp -implicitDefEqProofs only [go_sem, Nat.reduceEqDiff, Nat.reduceAdd, Nat.reduceLT, Nat.reduceLeDiff, Nat.reduceMul, Nat.reduceBEq, reduceIte, c4]
      rw [hR3]
      simp -implicitDefEqProofs only [go_sem, Nat.reduceEqDiff, Nat.reduceAdd, Nat.reduceLT, Nat.reduceLeDiff, Nat.reduceMul, Nat.reduceBEq, reduceIte, c4]
  · replace h := h; clear hz
    rintro s i
    rw [hR3] at i
    obtain ⟨gi6, i6⟩ := i
    clear hR3
    try dsimp only at h
    rcases ib h with ⟨c7, h⟩ | ⟨c7, h⟩
    · obtain ⟨r8, hr8, h⟩ := bs h
      simp -implicitDefEqProofs only [go_sem, Nat.reduceEqDiff, Nat.reduceAdd, Nat.reduceLT, Nat.reduceLeDiff, Nat.reduceMul, Nat.reduceBEq, reduceIte, gi6, i6, c7]
      try refine gCall_eta gi6 ?_
      refine call_frz (r' := .p (.bool r8)) (args := []) (caps := []) (m_law09_awake_ev  r8 hr8 (d + 1) empty) (wkRs_refl []) rfl (by simp -implicitDefEqProofs only [go_sem, Nat.reduceEqDiff, Nat.reduceAdd, Nat.reduceLT, Nat.reduceLeDiff, Nat.reduceMul, Nat.reduceBEq, reduceIte]) (by simp -implicitDefEqProofs only [go_sem, Nat.reduceEqDiff, Nat.reduceAdd, Nat.reduceLT, Nat.reduceLeDiff, Nat.reduceMul, Nat.reduceBEq, reduceIte]) ?_ rfl rfl
      cases h
      subst hQ
      simp -implicitDefEqProofs only [go_sem, Nat.reduceEqDiff, Nat.reduceAdd, Nat.reduceLT, Nat.reduceLeDiff, Nat.reduceMul, Nat.reduceBEq, reduceIte, gi6, i6, c7, Try.results4]
    · obtain ⟨r9, hr9, h⟩ := bs h
      simp -implicitDefEqProofs only [go_sem, Nat.reduceEqDiff, Nat.reduceAdd, Nat.reduceLT, Nat.reduceLeDiff, Nat.reduceMul, Nat.reduceBEq, reduceIte, gi6, i6, c7]
      refine call_frz (r' := .tup [.p (encP cTAuto_Auto r9.1), .p (.int .i64 r9.2)]) (m_auto_New_ev a0 r9 hr9 (d + 1) empty) (by simp -implicitDefEqProofs only [go_sem, Nat.reduceEqDiff, Nat.reduceAdd, Nat.reduceLT, Nat.reduceLeDiff, Nat.reduceMul, Nat.reduceBEq, reduceIte, gi6, i6, c7]) rfl (by simp -implicitDefEqProofs only [go_sem, Nat.reduceEqDiff, Nat.reduceAdd, Nat.reduceLT, Nat.reduceLeDiff, Nat.reduceMul, Nat.reduceBEq, reduceIte]) (by simp -implicitDefEqProofs only [go_sem, Nat.reduceEqDiff, Nat.reduceAdd, Nat.reduceLT, Nat.reduceLeDiff, Nat.reduceMul, Nat.reduceBEq, reduceIte]) ?_ rfl rfl
      obtain ⟨r10, hr10, h⟩ := bs h
      simp -implicitDefEqProofs only [go_sem, Nat.reduceEqDiff, Nat.reduceAdd, Nat.reduceLT, Nat.reduceLeDiff, Nat.reduceMul, Nat.reduceBEq, reduceIte, gi6, i6, c7]
      refine call_frz (r' := .tup [.p (.int .i64 r10.1), .p (.int .i64 r10.2)]) (m_ref09_Wrong_ev a0 r10 hr10 (d + 1) empty) (by simp -implicitDefEqProofs only [go_sem, Nat.reduceEqDiff, Nat.reduceAdd, Nat.reduceLT, Nat.reduceLeDiff, Nat.reduceMul, Nat.reduceBEq, reduceIte, gi6, i6, c7]) rfl (by simp -implicitDefEqProofs only [go_sem, Nat.reduceEqDiff, Nat.reduceAdd, Nat.reduceLT, Nat.reduceLeDiff, Nat.reduceMul, Nat.reduceBEq, reduceIte]) (by simp -implicitDefEqProofs only [go_sem, Nat.reduceEqDiff, Nat.reduceAdd, Nat.reduceLT, Nat.reduceLeDiff, Nat.reduceMul, Nat.reduceBEq, reduceIte]) ?_ rfl rfl
      rcases ib h with ⟨c11, h⟩ | ⟨c11, h⟩
      · cases h
        subst hQ
        simp -implicitDefEqProofs only [go_sem, Nat.reduceEqDiff, Nat.reduceAdd, Nat.reduceLT, Nat.reduceLeDiff, Nat.reduceMul, Nat.reduceBEq, reduceIte, gi6, i6, c7, c11, Try.results4]
      · rcases ib h with ⟨c12, h⟩ | ⟨c12, h⟩
        · cases h
          subst hQ
          simp -implicitDefEqProofs only [go_sem, Nat.reduceEqDiff, Nat.reduceAdd, Nat.reduceLT, Nat.reduceLeDiff, Nat.reduceMul, Nat.reduceBEq, reduceIte, gi6, i6, c7, c11, c12, Try.results4]
        · simp -implicitDefEqProofs only [go_sem, Nat.reduceEqDiff, Nat.reduceAdd, Nat.reduceLT, Nat.reduceLeDiff, Nat.reduceMul, Nat.reduceBEq, reduceIte, gi6, i6, c7, c11, c12]
          obtain ⟨z15, hL15, h⟩ := bs h
          obtain ⟨I15, hI15⟩ : ∃ I : Int → St → Prop, I = fun v16 s => s.G = fillKey (cut d G) (d + 1) 3 [.box [.p (.str a0.f0), .p (.sl (a0.f1.map cTState)), .p (.sl (a0.f2.map cTMove))]] ∧ s.F 1 = .p (.int .u32 a1) ∧ s.F 2 = .p (.int .u32 a2) ∧ s.F 3 = .bp (d + 1, 3, 0) 0 ∧ s.F 7 = .p (encP cTAuto_Auto r9.1) ∧ s.F 11 = .p (.int .i64 v16) ∧ True := ⟨_, rfl⟩
          obtain ⟨R15, hR15⟩ : ∃ R : ((Unit) ⊕ (Bool)) → GE → St → Prop, R = fun x e s => match x with | .inl _ => e = .exit 0 ∧ s.G = fillKey (cut d G) (d + 1) 3 [.box [.p (.str a0.f0), .p (.sl (a0.f1.map cTState)), .p (.sl (a0.f2.map cTMove))]] ∧ s.F 1 = .p (.int .u32 a1) ∧ s.F 3 = .bp (d + 1, 3, 0) 0 ∧ s.F 7 = .p (encP cTAuto_Auto r9.1) ∧ True | .inr r => e = .ret ∧ (r = r0 → Q .ret s) := ⟨_, rfl⟩
          refine lp (ts := [12]) rfl hL15 I15 R15 ?_ ?_ ?_
          · rw [hI15]
            simp -implicitDefEqProofs only [go_sem, Nat.reduceEqDiff, Nat.reduceAdd, Nat.reduceLT, Nat.reduceLeDiff, Nat.reduceMul, Nat.reduceBEq, reduceIte, gi6, i6, c7, c11, c12]
          · clear h hL15
            rintro v16 y s h i
            rw [hI15] at i
            obtain ⟨gi15, i15⟩ := i
            replace h : m_law09_AutoSteps_L0 a0 r9 a1 a2 (v16) = some y := h
            unfold m_law09_AutoSteps_L0 at h
            rcases ib h with ⟨c17, h⟩ | ⟨c17, h⟩
            · obtain ⟨v18, hv18, h⟩ := bs h
              replace hv18 := gis hv18
              simp -implicitDefEqProofs only [go_sem, Nat.reduceEqDiff, Nat.reduceAdd, Nat.reduceLT, Nat.reduceLeDiff, Nat.reduceMul, Nat.reduceBEq, reduceIte, gi6, i6, c7, c11, c12, gi15, i15, c17, hv18]
              obtain ⟨z21, hL21, h⟩ := bs h
              obtain ⟨I21, hI21⟩ : ∃ I : Int → St → Prop, I = fun v22 s => s.G = fillKey (fillKey (cut d G) (d + 1) 3 [.box [.p (.str a0.f0), .p (.sl (a0.f1.map cTState)), .p (.sl (a0.f2.map cTMove))]]) (d + 1) 12 [.box [.p (.str v18.f0), .p (.int .i64 v18.f1), .p (.sl (v18.f2.map cTOut))]] ∧ s.F 1 = .p (.int .u32 a1) ∧ s.F 2 = .p (.int .u32 a2) ∧ s.F 3 = .bp (d + 1, 3, 0) 0 ∧ s.F 7 = .p (encP cTAuto_Auto r9.1) ∧ s.F 11 = .p (.int .i64 v16) ∧ s.F 12 = .bp (d + 1, 12, 0) 0 ∧ s.F 13 = .p (.int .i64 v22) ∧ True := ⟨_, rfl⟩
              obtain ⟨R21, hR21⟩ : ∃ R : ((Unit) ⊕ (Bool)) → GE → St → Prop, R = fun x e s => match x with | .inl _ => e = .exit 2 ∧ s.G = fillKey (fillKey (cut d G) (d + 1) 3 [.box [.p (.str a0.f0), .p (.sl (a0.f1.map cTState)), .p (.sl (a0.f2.map cTMove))]]) (d + 1) 12 [.box [.p (.str v18.f0), .p (.int .i64 v18.f1), .p (.sl (v18.f2.map cTOut))]] ∧ s.F 1 = .p (.int .u32 a1) ∧ s.F 2 = .p (.int .u32 a2) ∧ s.F 3 = .bp (d + 1, 3, 0) 0 ∧ s.F 7 = .p (encP cTAuto_Auto r9.1) ∧ s.F 11 = .p (.int .i64 v16) ∧ True | .inr r => e = .ret ∧ (r = r0 → Q .ret s) := ⟨_, rfl⟩
              refine lp (ts := []) rfl hL21 I21 R21 ?_ ?_ ?_
              · rw [hI21]
                simp -implicitDefEqProofs only [go_sem, Nat.reduceEqDiff, Nat.reduceAdd, Nat.reduceLT, Nat.reduceLeDiff, Nat.reduceMul, Nat.reduceBEq, reduceIte, gi6, i6, c7, c11, c12, gi15, i15, c17, hv18]
              · clear h hL21
                rintro v22 y s h i
                rw [hI21] at i
                obtain ⟨gi21, i21⟩ := i
                replace h : m_law09_AutoSteps_L1 v18 r9 a1 a2 a0 (v22) = some y := h
                unfold m_law09_AutoSteps_L1 at h
                rcases ib h with ⟨c23, h⟩ | ⟨c23, h⟩
                · obtain ⟨v24, hv24, h⟩ := bs h
                  replace hv24 := gis hv24
                  obtain ⟨r25, hr25, h⟩ := bs h
                  simp -implicitDefEqProofs only [go_sem, Nat.reduceEqDiff, Nat.reduceAdd, Nat.reduceLT, Nat.reduceLeDiff, Nat.reduceMul, Nat.reduceBEq, reduceIte, gi6, i6, c7, c11, c12, gi15, i15, c17, hv18, gi21, i21, c23, hv24]
                  refine call_frz (r' := .p (.int .u32 r25)) (m_auto_Auto_Step_ev r9.1 a1 v18.f0 v24.f0 r25 hr25 (d + 1) empty) (by simp -implicitDefEqProofs only [go_sem, Nat.reduceEqDiff, Nat.reduceAdd, Nat.reduceLT, Nat.reduceLeDiff, Nat.reduceMul, Nat.reduceBEq, reduceIte, gi6, i6, c7, c11, c12, gi15, i15, c17, hv18, gi21, i21, c23, hv24]) rfl (by simp -implicitDefEqProofs only [go_sem, Nat.reduceEqDiff, Nat.reduceAdd, Nat.reduceLT, Nat.reduceLeDiff, Nat.reduceMul, Nat.reduceBEq, reduceIte]) (by simp -implicitDefEqProofs only [go_sem, Nat.reduceEqDiff, Nat.reduceAdd, Nat.reduceLT, Nat.reduceLeDiff, Nat.reduceMul, Nat.reduceBEq, reduceIte]) ?_ rfl rfl
                  obtain ⟨r26, hr26, h⟩ := bs h
                  simp -implicitDefEqProofs only [go_sem, Nat.reduceEqDiff, Nat.reduceAdd, Nat.reduceLT, Nat.reduceLeDiff, Nat.reduceMul, Nat.reduceBEq, reduceIte, gi6, i6, c7, c11, c12, gi15, i15, c17, hv18, gi21, i21, c23, hv24]
                  refine call_frz (r' := .p (.int .u32 r26)) (m_auto_Auto_Step_ev r9.1 a2 v18.f0 v24.f0 r26 hr26 (d + 1) empty) (by simp -implicitDefEqProofs only [go_sem, Nat.reduceEqDiff, Nat.reduceAdd, Nat.reduceLT, Nat.reduceLeDiff, Nat.reduceMul, Nat.reduceBEq, reduceIte, gi6, i6, c7, c11, c12, gi15, i15, c17, hv18, gi21, i21, c23, hv24]) rfl (by simp -implicitDefEqProofs only [go_sem, Nat.reduceEqDiff, Nat.reduceAdd, Nat.reduceLT, Nat.reduceLeDiff, Nat.reduceMul, Nat.reduceBEq, reduceIte]) (by simp -implicitDefEqProofs only [go_sem, Nat.reduceEqDiff, Nat.reduceAdd, Nat.reduceLT, Nat.reduceLeDiff, Nat.reduceMul, Nat.reduceBEq, reduceIte]) ?_ rfl rfl
                  obtain ⟨r27, hr27, h⟩ := bs h
                  simp -implicitDefEqProofs only [go_sem, Nat.reduceEqDiff, Nat.reduceAdd, Nat.reduceLT, Nat.reduceLeDiff, Nat.reduceMul, Nat.reduceBEq, reduceIte, gi6, i6, c7, c11, c12, gi15, i15, c17, hv18, gi21, i21, c23, hv24]
                  refine call_frz (r' := .p (.int .u32 r27)) (m_ref09_Step_ev a0 a1 v18.f0 v24.f0 r27 hr27 (d + 1) empty) (by simp -implicitDefEqProofs only [go_sem, Nat.reduceEqDiff, Nat.reduceAdd, Nat.reduceLT, Nat.reduceLeDiff, Nat.reduceMul, Nat.reduceBEq, reduceIte, gi6, i6, c7, c11, c12, gi15, i15, c17, hv18, gi21, i21, c23, hv24]) rfl (by simp -implicitDefEqProofs only [go_sem, Nat.reduceEqDiff, Nat.reduceAdd, Nat.reduceLT, Nat.reduceLeDiff, Nat.reduceMul, Nat.reduceBEq, reduceIte]) (by simp -implicitDefEqProofs only [go_sem, Nat.reduceEqDiff, Nat.reduceAdd, Nat.reduceLT, Nat.reduceLeDiff, Nat.reduceMul, Nat.reduceBEq, reduceIte]) ?_ rfl rfl
                  simp -implicitDefEqProofs only [go_sem, Nat.reduceEqDiff, Nat.reduceAdd, Nat.reduceLT, Nat.reduceLeDiff, Nat.reduceMul, Nat.reduceBEq, reduceIte, gi6, i6, c7, c11, c12, gi15, i15, c17, hv18, gi21, i21, c23, hv24]
                  obtain ⟨v28, hz, h⟩ := bs h
                  obtain ⟨R29, hR29⟩ : ∃ R : St → Prop, R = fun s => s.G = fillKey (fillKey (cut d G) (d + 1) 3 [.box [.p (.str a0.f0), .p (.sl (a0.f1.map cTState)), .p (.sl (a0.f2.map cTMove))]]) (d + 1) 12 [.box [.p (.str v18.f0), .p (.int .i64 v18.f1), .p (.sl (v18.f2.map cTOut))]] ∧ s.F 1 = .p (.int .u32 a1) ∧ s.F 2 = .p (.int .u32 a2) ∧ s.F 3 = .bp (d + 1, 3, 0) 0 ∧ s.F 7 = .p (encP cTAuto_Auto r9.1) ∧ s.F 11 = .p (.int .i64 v16) ∧ s.F 12 = .bp (d + 1, 12, 0) 0 ∧ s.F 13 = .p (.int .i64 v22) ∧ s.F 14 = .p (.int .u32 r25) ∧ s.F 127 = .p (.bool v28) ∧ True := ⟨_, rfl⟩
                  refine cutR R29 ?_ ?_
                  · replace h := hz
                    rcases ib h with ⟨c30, h⟩ | ⟨c30, h⟩
                    · cases h
                      simp -implicitDefEqProofs only [go_sem, Nat.reduceEqDiff, Nat.reduceAdd, Nat.reduceLT, Nat.reduceLeDiff, Nat.reduceMul, Nat.reduceBEq, reduceIte, gi6, i6, c7, c11, c12, gi15, i15, c17, hv18, gi21, i21, c23, hv24, c30]
                      rw [hR29]
                      simp -implicitDefEqProofs only [go_sem, Nat.reduceEqDiff, Nat.reduceAdd, Nat.reduceLT, Nat.reduceLeDiff, Nat.reduceMul, Nat.reduceBEq, reduceIte, gi6, i6, c7, c11, c12, gi15, i15, c17, hv18, gi21, i21, c23, hv24, c30]
                    · obtain ⟨r31, hr31, h⟩ := bs h
                      simp -implicitDefEqProofs only [go_sem, Nat.reduceEqDiff, Nat.reduceAdd, Nat.reduceLT, Nat.reduceLeDiff, Nat.reduceMul, Nat.reduceBEq, reduceIte, gi6, i6, c7, c11, c12, gi15, i15, c17, hv18, gi21, i21, c23, hv24, c30]
                      refine call_frz (r' := .p (.int .u32 r31)) (m_auto_Auto_Step_ev r9.1 (orI .u32 a1 a2) v18.f0 v24.f0 r31 hr31 (d + 1) empty) (by simp -implicitDefEqProofs only [go_sem, Nat.reduceEqDiff, Nat.reduceAdd, Nat.reduceLT, Nat.reduceLeDiff, Nat.reduceMul, Nat.reduceBEq, reduceIte, gi6, i6, c7, c11, c12, gi15, i15, c17, hv18, gi21, i21, c23, hv24, c30]) rfl (by simp -implicitDefEqProofs only [go_sem, Nat.reduceEqDiff, Nat.reduceAdd, Nat.reduceLT, Nat.reduceLeDiff, Nat.reduceMul, Nat.reduceBEq, reduceIte]) (by simp -implicitDefEqProofs only [go_sem, Nat.reduceEqDiff, Nat.reduceAdd, Nat.reduceLT, Nat.reduceLeDiff, Nat.reduceMul, Nat.reduceBEq, reduceIte]) ?_ rfl rfl
                      rcases ib h with ⟨c32, h⟩ | ⟨c32, h⟩
                      · cases h
                        simp -implicitDefEqProofs only [go_sem, Nat.reduceEqDiff, Nat.reduceAdd, Nat.reduceLT, Nat.reduceLeDiff, Nat.reduceMul, Nat.reduceBEq, reduceIte, gi6, i6, c7, c11, c12, gi15, i15, c17, hv18, gi21, i21, c23, hv24, c30, c32]
                        rw [hR29]
                        simp -implicitDefEqProofs only [go_sem, Nat.reduceEqDiff, Nat.reduceAdd, Nat.reduceLT, Nat.reduceLeDiff, Nat.reduceMul, Nat.reduceBEq, reduceIte, gi6, i6, c7, c11, c12, gi15, i15, c17, hv18, gi21, i21, c23, hv24, c30, c32]
                      · obtain ⟨r33, hr33, h⟩ := bs h
                        simp -implicitDefEqProofs only [go_sem, Nat.reduceEqDiff, Nat.reduceAdd, Nat.reduceLT, Nat.reduceLeDiff, Nat.reduceMul, Nat.reduceBEq, reduceIte, gi6, i6, c7, c11, c12, gi15, i15, c17, hv18, gi21, i21, c23, hv24, c30, c32]
                        refine call_frz (r' := .p (.int .u32 r33)) (m_auto_Auto_Finals_ev r9.1 r33 hr33 (d + 1) empty) (by simp -implicitDefEqProofs only [go_sem, Nat.reduceEqDiff, Nat.reduceAdd, Nat.reduceLT, Nat.reduceLeDiff, Nat.reduceMul, Nat.reduceBEq, reduceIte, gi6, i6, c7, c11, c12, gi15, i15, c17, hv18, gi21, i21, c23, hv24, c30, c32]) rfl (by simp -implicitDefEqProofs only [go_sem, Nat.reduceEqDiff, Nat.reduceAdd, Nat.reduceLT, Nat.reduceLeDiff, Nat.reduceMul, Nat.reduceBEq, reduceIte]) (by simp -implicitDefEqProofs only [go_sem, Nat.reduceEqDiff, Nat.reduceAdd, Nat.reduceLT, Nat.reduceLeDiff, Nat.reduceMul, Nat.reduceBEq, reduceIte]) ?_ rfl rfl
                        obtain ⟨r34, hr34, h⟩ := bs h
                        simp -implicitDefEqProofs only [go_sem, Nat.reduceEqDiff, Nat.reduceAdd, Nat.reduceLT, Nat.reduceLeDiff, Nat.reduceMul, Nat.reduceBEq, reduceIte, gi6, i6, c7, c11, c12, gi15, i15, c17, hv18, gi21, i21, c23, hv24, c30, c32]
                        refine call_frz (r' := .p (.int .u32 r34)) (m_auto_Auto_Step_ev r9.1 r33 v18.f0 v24.f0 r34 hr34 (d + 1) empty) (by simp -implicitDefEqProofs only [go_sem, Nat.reduceEqDiff, Nat.reduceAdd, Nat.reduceLT, Nat.reduceLeDiff, Nat.reduceMul, Nat.reduceBEq, reduceIte, gi6, i6, c7, c11, c12, gi15, i15, c17, hv18, gi21, i21, c23, hv24, c30, c32]) rfl (by simp -implicitDefEqProofs only [go_sem, Nat.reduceEqDiff, Nat.reduceAdd, Nat.reduceLT, Nat.reduceLeDiff, Nat.reduceMul, Nat.reduceBEq, reduceIte]) (by simp -implicitDefEqProofs only [go_sem, Nat.reduceEqDiff, Nat.reduceAdd, Nat.reduceLT, Nat.reduceLeDiff, Nat.reduceMul, Nat.reduceBEq, reduceIte]) ?_ rfl rfl
                        cases h
                        simp -implicitDefEqProofs only [go_sem, Nat.reduceEqDiff, Nat.reduceAdd, Nat.reduceLT, Nat.reduceLeDiff, Nat.reduceMul, Nat.reduceBEq, reduceIte, gi6, i6, c7, c11, c12, gi15, i15, c17, hv18, gi21, i21, c23, hv24, c30, c32]
                        rw [hR29]
                        simp -implicitDefEqProofs only [go_sem, Nat.reduceEqDiff, Nat.reduceAdd, Nat.reduceLT, Nat.reduceLeDiff, Nat.reduceMul, Nat.reduceBEq, reduceIte, gi6, i6, c7, c11, c12, gi15, i15, c17, hv18, gi21, i21, c23, hv24, c30, c32]
                  · replace h := h; clear hz
                    rintro s i
                    rw [hR29] at i
                    obtain ⟨gi35, i35⟩ := i
                    clear hR29
                    try dsimp only at h
                    rcases ib h with ⟨c36, h⟩ | ⟨c36, h⟩
                    · cases h
                      simp -implicitDefEqProofs only [go_sem, Nat.reduceEqDiff, Nat.reduceAdd, Nat.reduceLT, Nat.reduceLeDiff, Nat.reduceMul, Nat.reduceBEq, reduceIte, gi6, i6, c7, c11, c12, gi15, i15, c17, hv18, gi21, i21, c23, hv24, gi35, i35, c36]
                      rw [hR21]
                      refine ⟨rfl, ?_⟩
                      intro hr
                      subst hr
                      subst hQ
                      simp -implicitDefEqProofs only [go_sem, Nat.reduceEqDiff, Nat.reduceAdd, Nat.reduceLT, Nat.reduceLeDiff, Nat.reduceMul, Nat.reduceBEq, reduceIte, gi6, i6, c7, c11, c12, gi15, i15, c17, hv18, gi21, i21, c23, hv24, gi35, i35, c36, Try.results4]
                    · obtain ⟨_, c37, h⟩ := bs h
                      replace c37 := rqs c37
                      simp -implicitDefEqProofs only [go_sem, Nat.reduceEqDiff, Nat.reduceAdd, Nat.reduceLT, Nat.reduceLeDiff, Nat.reduceMul, Nat.reduceBEq, reduceIte, gi6, i6, c7, c11, c12, gi15, i15, c17, hv18, gi21, i21, c23, hv24, gi35, i35, c36, c37]
                      obtain ⟨v38, hz, h⟩ := bs h
                      obtain ⟨R39, hR39⟩ : ∃ R : St → Prop, R = fun s => s.G = fillKey (fillKey (cut d G) (d + 1) 3 [.box [.p (.str a0.f0), .p (.sl (a0.f1.map cTState)), .p (.sl (a0.f2.map cTMove))]]) (d + 1) 12 [.box [.p (.str v18.f0), .p (.int .i64 v18.f1), .p (.sl (v18.f2.map cTOut))]] ∧ s.F 1 = .p (.int .u32 a1) ∧ s.F 2 = .p (.int .u32 a2) ∧ s.F 3 = .bp (d + 1, 3, 0) 0 ∧ s.F 7 = .p (encP cTAuto_Auto r9.1) ∧ s.F 11 = .p (.int .i64 v16) ∧ s.F 12 = .bp (d + 1, 12, 0) 0 ∧ s.F 13 = .p (.int .i64 v22) ∧ s.F 145 = .p (.bool v38) ∧ True := ⟨_, rfl⟩
                      refine cutR R39 ?_ ?_
                      · replace h := hz
                        rcases ib h with ⟨c40, h⟩ | ⟨c40, h⟩
                        · obtain ⟨_, c41, h⟩ := bs h
                          replace c41 := rqs c41
                          cases h
                          simp -implicitDefEqProofs only [go_sem, Nat.reduceEqDiff, Nat.reduceAdd, Nat.reduceLT, Nat.reduceLeDiff, Nat.reduceMul, Nat.reduceBEq, reduceIte, gi6, i6, c7, c11, c12, gi15, i15, c17, hv18, gi21, i21, c23, hv24, gi35, i35, c36, c37, c40, c41]
                          rw [hR39]
                          simp -implicitDefEqProofs only [go_sem, Nat.reduceEqDiff, Nat.reduceAdd, Nat.reduceLT, Nat.reduceLeDiff, Nat.reduceMul, Nat.reduceBEq, reduceIte, gi6, i6, c7, c11, c12, gi15, i15, c17, hv18, gi21, i21, c23, hv24, gi35, i35, c36, c37, c40, c41]
                        · cases h
                          simp -implicitDefEqProofs only [go_sem, Nat.reduceEqDiff, Nat.reduceAdd, Nat.reduceLT, Nat.reduceLeDiff, Nat.reduceMul, Nat.reduceBEq, reduceIte, gi6, i6, c7, c11, c12, gi15, i15, c17, hv18, gi21, i21, c23, hv24, gi35, i35, c36, c37, c40]
                          rw [hR39]
                          simp -implicitDefEqProofs only [go_sem, Nat.reduceEqDiff, Nat.reduceAdd, Nat.reduceLT, Nat.reduceLeDiff, Nat.reduceMul, Nat.reduceBEq, reduceIte, gi6, i6, c7, c11, c12, gi15, i15, c17, hv18, gi21, i21, c23, hv24, gi35, i35, c36, c37, c40]
                      · replace h := h; clear hz
                        rintro s i
                        rw [hR39] at i
                        obtain ⟨gi42, i42⟩ := i
                        clear hR39
                        try dsimp only at h
                        rcases ib h with ⟨c43, h⟩ | ⟨c43, h⟩
                        · cases h
                          simp -implicitDefEqProofs only [go_sem, Nat.reduceEqDiff, Nat.reduceAdd, Nat.reduceLT, Nat.reduceLeDiff, Nat.reduceMul, Nat.reduceBEq, reduceIte, gi6, i6, c7, c11, c12, gi15, i15, c17, hv18, gi21, i21, c23, hv24, gi35, i35, c36, c37, gi42, i42, c43]
                          rw [hR21]
                          refine ⟨rfl, ?_⟩
                          intro hr
                          subst hr
                          subst hQ
                          simp -implicitDefEqProofs only [go_sem, Nat.reduceEqDiff, Nat.reduceAdd, Nat.reduceLT, Nat.reduceLeDiff, Nat.reduceMul, Nat.reduceBEq, reduceIte, gi6, i6, c7, c11, c12, gi15, i15, c17, hv18, gi21, i21, c23, hv24, gi35, i35, c36, c37, gi42, i42, c43, Try.results4]
                        · cases h
                          simp -implicitDefEqProofs only [go_sem, Nat.reduceEqDiff, Nat.reduceAdd, Nat.reduceLT, Nat.reduceLeDiff, Nat.reduceMul, Nat.reduceBEq, reduceIte, gi6, i6, c7, c11, c12, gi15, i15, c17, hv18, gi21, i21, c23, hv24, gi35, i35, c36, c37, gi42, i42, c43]
                          rw [hI21]
                          simp -implicitDefEqProofs only [go_sem, Nat.reduceEqDiff, Nat.reduceAdd, Nat.reduceLT, Nat.reduceLeDiff, Nat.reduceMul, Nat.reduceBEq, reduceIte, gi6, i6, c7, c11, c12, gi15, i15, c17, hv18, gi21, i21, c23, hv24, gi35, i35, c36, c37, gi42, i42, c43]
                · cases h
                  simp -implicitDefEqProofs only [go_sem, Nat.reduceEqDiff, Nat.reduceAdd, Nat.reduceLT, Nat.reduceLeDiff, Nat.reduceMul, Nat.reduceBEq, reduceIte, gi6, i6, c7, c11, c12, gi15, i15, c17, hv18, gi21, i21, c23]
                  rw [hR21]
                  refine ⟨rfl, ?_⟩
                  simp -implicitDefEqProofs only [go_sem, Nat.reduceEqDiff, Nat.reduceAdd, Nat.reduceLT, Nat.reduceLeDiff, Nat.reduceMul, Nat.reduceBEq, reduceIte, gi6, i6, c7, c11, c12, gi15, i15, c17, hv18, gi21, i21, c23]
              · clear hL21 hI21
                intro e s hr21
                rw [hR21] at hr21
                clear hR21
                rcases z21 with _ | r
                · try dsimp only at h hr21
                  obtain ⟨rfl, gi44, i44⟩ := hr21
                  cases h
                  simp -implicitDefEqProofs only [go_sem, Nat.reduceEqDiff, Nat.reduceAdd, Nat.reduceLT, Nat.reduceLeDiff, Nat.reduceMul, Nat.reduceBEq, reduceIte, gi6, i6, c7, c11, c12, gi15, i15, c17, hv18, gi44, i44]
                  rw [hI15]
                  simp -implicitDefEqProofs only [go_sem, Nat.reduceEqDiff, Nat.reduceAdd, Nat.reduceLT, Nat.reduceLeDiff, Nat.reduceMul, Nat.reduceBEq, reduceIte, gi6, i6, c7, c11, c12, gi15, i15, c17, hv18, gi44, i44]
                · try dsimp only at h hr21
                  obtain ⟨rfl, hr21⟩ := hr21
                  cases h
                  try simp -implicitDefEqProofs only [go_sem, Nat.reduceEqDiff, Nat.reduceAdd, Nat.reduceLT, Nat.reduceLeDiff, Nat.reduceMul, Nat.reduceBEq, reduceIte]
                  rw [hR15]
                  exact ⟨rfl, hr21⟩
            · cases h
              simp -implicitDefEqProofs only [go_sem, Nat.reduceEqDiff, Nat.reduceAdd, Nat.reduceLT, Nat.reduceLeDiff, Nat.reduceMul, Nat.reduceBEq, reduceIte, gi6, i6, c7, c11, c12, gi15, i15, c17]
              rw [hR15]
              refine ⟨rfl, ?_⟩
              simp -implicitDefEqProofs only [go_sem, Nat.reduceEqDiff, Nat.reduceAdd, Nat.reduceLT, Nat.reduceLeDiff, Nat.reduceMul, Nat.reduceBEq, reduceIte, gi6, i6, c7, c11, c12, gi15, i15, c17]
          · clear hL15 hI15
            intro e s hr15
            rw [hR15] at hr15
            clear hR15
            rcases z15 with _ | r
            · try dsimp only at h hr15
              obtain ⟨rfl, gi45, i45⟩ := hr15
              obtain ⟨r46, hr46, h⟩ := bs h
              simp -implicitDefEqProofs only [go_sem, Nat.reduceEqDiff, Nat.reduceAdd, Nat.reduceLT, Nat.reduceLeDiff, Nat.reduceMul, Nat.reduceBEq, reduceIte, gi6, i6, c7, c11, c12, gi45, i45]
              refine call_frz (r' := .p (.int .u32 r46)) (m_auto_Auto_Step_ev r9.1 a1 (⟨#[63]⟩ : ByteArray) (⟨#[63]⟩ : ByteArray) r46 hr46 (d + 1) empty) (by simp -implicitDefEqProofs only [go_sem, Nat.reduceEqDiff, Nat.reduceAdd, Nat.reduceLT, Nat.reduceLeDiff, Nat.reduceMul, Nat.reduceBEq, reduceIte, gi6, i6, c7, c11, c12, gi45, i45]) rfl (by simp -implicitDefEqProofs only [go_sem, Nat.reduceEqDiff, Nat.reduceAdd, Nat.reduceLT, Nat.reduceLeDiff, Nat.reduceMul, Nat.reduceBEq, reduceIte]) (by simp -implicitDefEqProofs only [go_sem, Nat.reduceEqDiff, Nat.reduceAdd, Nat.reduceLT, Nat.reduceLeDiff, Nat.reduceMul, Nat.reduceBEq, reduceIte]) ?_ rfl rfl
              obtain ⟨r47, hr47, h⟩ := bs h
              simp -implicitDefEqProofs only [go_sem, Nat.reduceEqDiff, Nat.reduceAdd, Nat.reduceLT, Nat.reduceLeDiff, Nat.reduceMul, Nat.reduceBEq, reduceIte, gi6, i6, c7, c11, c12, gi45, i45]
              refine call_frz (r' := .p (.int .u32 r47)) (m_ref09_Step_ev a0 a1 (⟨#[63]⟩ : ByteArray) (⟨#[63]⟩ : ByteArray) r47 hr47 (d + 1) empty) (by simp -implicitDefEqProofs only [go_sem, Nat.reduceEqDiff, Nat.reduceAdd, Nat.reduceLT, Nat.reduceLeDiff, Nat.reduceMul, Nat.reduceBEq, reduceIte, gi6, i6, c7, c11, c12, gi45, i45]) rfl (by simp -implicitDefEqProofs only [go_sem, Nat.reduceEqDiff, Nat.reduceAdd, Nat.reduceLT, Nat.reduceLeDiff, Nat.reduceMul, Nat.reduceBEq, reduceIte]) (by simp -implicitDefEqProofs only [go_sem, Nat.reduceEqDiff, Nat.reduceAdd, Nat.reduceLT, Nat.reduceLeDiff, Nat.reduceMul, Nat.reduceBEq, reduceIte]) ?_ rfl rfl
              cases h
              subst hQ
              simp -implicitDefEqProofs only [go_sem, Nat.reduceEqDiff, Nat.reduceAdd, Nat.reduceLT, Nat.reduceLeDiff, Nat.reduceMul, Nat.reduceBEq, reduceIte, gi6, i6, c7, c11, c12, gi45, i45, Try.results4]
            · try dsimp only at h hr15
              obtain ⟨rfl, hr15⟩ := hr15
              cases h
              try simp -implicitDefEqProofs only [go_sem, Nat.reduceEqDiff, Nat.reduceAdd, Nat.reduceLT, Nat.reduceLeDiff, Nat.reduceMul, Nat.reduceBEq, reduceIte]
              exact hr15 rfl
theorem m_law09_AutoKeeps_ev (a0 : TProto) (a1 : Int) (r0 : Bool) (h : m_law09_AutoKeeps a0 a1 = some r0) (d : Nat) (G : Heap) : Tel Try.prog TB d 5 [.agg ((cTProto a0).map .p), .p (.int .u32 a1)] G (.p (.bool r0)) G := by
  unfold m_law09_AutoKeeps at h
  refine Tel.intro mix Try.func5 rfl (Nat.le_of_ble_eq_true rfl) {frzAt := fun t => t == 14 || t == 18 || t == 21 || t == 24 || t == 29 || t == 54 || t == 58 || t == 61 || t == 66 || t == 80} (by kernel_rfl) (by kernel_rfl) ?_
  generalize hQ : callPost _ _ _ _ _ = Q
  obtain ⟨r1, hr1, h⟩ := bs h
  simp -implicitDefEqProofs only [go_sem, Nat.reduceEqDiff, Nat.reduceAdd, Nat.reduceLT, Nat.reduceLeDiff, Nat.reduceMul, Nat.reduceBEq, reduceIte]
  refine call_frz (r' := .p (.bool r1)) (args := []) (caps := []) (m_law09_awake_ev  r1 hr1 (d + 1) empty) (wkRs_refl []) rfl (by simp -implicitDefEqProofs only [go_sem, Nat.reduceEqDiff, Nat.reduceAdd, Nat.reduceLT, Nat.reduceLeDiff, Nat.reduceMul, Nat.reduceBEq, reduceIte]) (by simp -implicitDefEqProofs only [go_sem, Nat.reduceEqDiff, Nat.reduceAdd, Nat.reduceLT, Nat.reduceLeDiff, Nat.reduceMul, Nat.reduceBEq, reduceIte]) ?_ rfl rfl
  simp -implicitDefEqProofs only [go_sem, Nat.reduceEqDiff, Nat.reduceAdd, Nat.reduceLT, Nat.reduceLeDiff, Nat.reduceMul, Nat.reduceBEq, reduceIte]
  obtain ⟨v2, hz, h⟩ := bs h
  obtain ⟨R3, hR3⟩ : ∃ R : St → Prop, R = fun s => s.G = fillKey (cut d G) (d + 1) 2 [.box [.p (.str a0.f0), .p (.sl (a0.f1.map cTState)), .p (.sl (a0.f2.map cTMove))]] ∧ s.F 1 = .p (.int .u32 a1) ∧ s.F 2 = .bp (d + 1, 2, 0) 0 ∧ s.F 20 = .p (.bool v2) ∧ True := ⟨_, rfl⟩
  refine cutR R3 ?_ ?_
  · replace h := hz
    rcases ib h with ⟨c4, h⟩ | ⟨c4, h⟩
    · cases h
      simp -implicitDefEqProofs only [go_sem, Nat.reduceEqDiff, Nat.reduceAdd, Nat.reduceLT, Nat.reduceLeDiff, Nat.reduceMul, Nat.reduceBEq, reduceIte, c4]
      rw [hR3]
      simp -implicitDefEqProofs only [go_sem, Nat.reduceEqDiff, Nat.reduceAdd, Nat.reduceLT, Nat.reduceLeDiff, Nat.reduceMul, Nat.reduceBEq, reduceIte, c4]
    · obtain ⟨r5, hr5, h⟩ := bs h
      simp -implicitDefEqProofs only [go_sem, Nat.reduceEqDiff, Nat.reduceAdd, Nat.reduceLT, Nat.reduceLeDiff, Nat.reduceMul, Nat.reduceBEq, reduceIte, c4]
      refine call_frz (r' := .p (.bool r5)) (m_ref09_Small_ev a0 r5 hr5 (d + 1) empty) (by simp -implicitDefEqProofs only [go_sem, Nat.reduceEqDiff, Nat.reduceAdd, Nat.reduceLT, Nat.reduceLeDiff, Nat.reduceMul, Nat.reduceBEq, reduceIte, c4]) rfl (by simp -implicitDefEqProofs only [go_sem, Nat.reduceEqDiff, Nat.reduceAdd, Nat.reduceLT, Nat.reduceLeDiff, Nat.reduceMul, Nat.reduceBEq, reduceIte]) (by simp -implicitDefEqProofs only [go_sem, Nat.reduceEqDiff, Nat.reduceAdd, Nat.reduceLT, Nat.reduceLeDiff, Nat.reduceMul, Nat.reduceBEq, reduceIte]) ?_ rfl rfl
      cases h
      simp -implicitDefEqProofs only [go_sem, Nat.reduceEqDiff, Nat.reduceAdd, Nat.reduceLT, Nat.reduceLeDiff, Nat.reduceMul, Nat.reduceBEq, reduceIte, c4]
      rw [hR3]
      simp -implicitDefEqProofs only [go_sem, Nat.reduceEqDiff, Nat.reduceAdd, Nat.reduceLT, Nat.reduceLeDiff, Nat.reduceMul, Nat.reduceBEq, reduceIte, c4]
  · replace h := h; clear hz
    rintro s i
    rw [hR3] at i
    obtain ⟨gi6, i6⟩ := i
    clear hR3
    try dsimp only at h
    rcases ib h with ⟨c7, h⟩ | ⟨c7, h⟩
    · obtain ⟨r8, hr8, h⟩ := bs h
      simp -implicitDefEqProofs only [go_sem, Nat.reduceEqDiff, Nat.reduceAdd, Nat.reduceLT, Nat.reduceLeDiff, Nat.reduceMul, Nat.reduceBEq, reduceIte, gi6, i6, c7]
      try refine gCall_eta gi6 ?_
      refine call_frz (r' := .p (.bool r8)) (args := []) (caps := []) (m_law09_awake_ev  r8 hr8 (d + 1) empty) (wkRs_refl []) rfl (by simp -implicitDefEqProofs only [go_sem, Nat.reduceEqDiff, Nat.reduceAdd, Nat.reduceLT, Nat.reduceLeDiff, Nat.reduceMul, Nat.reduceBEq, reduceIte]) (by simp -implicitDefEqProofs only [go_sem, Nat.reduceEqDiff, Nat.reduceAdd, Nat.reduceLT, Nat.reduceLeDiff, Nat.reduceMul, Nat.reduceBEq, reduceIte]) ?_ rfl rfl
      cases h
      subst hQ
      simp -implicitDefEqProofs only [go_sem, Nat.reduceEqDiff, Nat.reduceAdd, Nat.reduceLT, Nat.reduceLeDiff, Nat.reduceMul, Nat.reduceBEq, reduceIte, gi6, i6, c7, Try.results5]
    · obtain ⟨r9, hr9, h⟩ := bs h
      simp -implicitDefEqProofs only [go_sem, Nat.reduceEqDiff, Nat.reduceAdd, Nat.reduceLT, Nat.reduceLeDiff, Nat.reduceMul, Nat.reduceBEq, reduceIte, gi6, i6, c7]
      refine call_frz (r' := .tup [.p (encP cTAuto_Auto r9.1), .p (.int .i64 r9.2)]) (m_auto_New_ev a0 r9 hr9 (d + 1) empty) (by simp -implicitDefEqProofs only [go_sem, Nat.reduceEqDiff, Nat.reduceAdd, Nat.reduceLT, Nat.reduceLeDiff, Nat.reduceMul, Nat.reduceBEq, reduceIte, gi6, i6, c7]) rfl (by simp -implicitDefEqProofs only [go_sem, Nat.reduceEqDiff, Nat.reduceAdd, Nat.reduceLT, Nat.reduceLeDiff, Nat.reduceMul, Nat.reduceBEq, reduceIte]) (by simp -implicitDefEqProofs only [go_sem, Nat.reduceEqDiff, Nat.reduceAdd, Nat.reduceLT, Nat.reduceLeDiff, Nat.reduceMul, Nat.reduceBEq, reduceIte]) ?_ rfl rfl
      obtain ⟨r10, hr10, h⟩ := bs h
      simp -implicitDefEqProofs only [go_sem, Nat.reduceEqDiff, Nat.reduceAdd, Nat.reduceLT, Nat.reduceLeDiff, Nat.reduceMul, Nat.reduceBEq, reduceIte, gi6, i6, c7]
      refine call_frz (r' := .tup [.p (.int .i64 r10.1), .p (.int .i64 r10.2)]) (m_ref09_Wrong_ev a0 r10 hr10 (d + 1) empty) (by simp -implicitDefEqProofs only [go_sem, Nat.reduceEqDiff, Nat.reduceAdd, Nat.reduceLT, Nat.reduceLeDiff, Nat.reduceMul, Nat.reduceBEq, reduceIte, gi6, i6, c7]) rfl (by simp -implicitDefEqProofs only [go_sem, Nat.reduceEqDiff, Nat.reduceAdd, Nat.reduceLT, Nat.reduceLeDiff, Nat.reduceMul, Nat.reduceBEq, reduceIte]) (by simp -implicitDefEqProofs only [go_sem, Nat.reduceEqDiff, Nat.reduceAdd, Nat.reduceLT, Nat.reduceLeDiff, Nat.reduceMul, Nat.reduceBEq, reduceIte]) ?_ rfl rfl
      rcases ib h with ⟨c11, h⟩ | ⟨c11, h⟩
      · cases h
        subst hQ
        simp -implicitDefEqProofs only [go_sem, Nat.reduceEqDiff, Nat.reduceAdd, Nat.reduceLT, Nat.reduceLeDiff, Nat.reduceMul, Nat.reduceBEq, reduceIte, gi6, i6, c7, c11, Try.results5]
      · rcases ib h with ⟨c12, h⟩ | ⟨c12, h⟩
        · cases h
          subst hQ
          simp -implicitDefEqProofs only [go_sem, Nat.reduceEqDiff, Nat.reduceAdd, Nat.reduceLT, Nat.reduceLeDiff, Nat.reduceMul, Nat.reduceBEq, reduceIte, gi6, i6, c7, c11, c12, Try.results5]
        · simp -implicitDefEqProofs only [go_sem, Nat.reduceEqDiff, Nat.reduceAdd, Nat.reduceLT, Nat.reduceLeDiff, Nat.reduceMul, Nat.reduceBEq, reduceIte, gi6, i6, c7, c11, c12]
          obtain ⟨z15, hL15, h⟩ := bs h
          obtain ⟨I15, hI15⟩ : ∃ I : Int → St → Prop, I = fun v16 s => s.G = fillKey (cut d G) (d + 1) 2 [.box [.p (.str a0.f0), .p (.sl (a0.f1.map cTState)), .p (.sl (a0.f2.map cTMove))]] ∧ s.F 1 = .p (.int .u32 a1) ∧ s.F 2 = .bp (d + 1, 2, 0) 0 ∧ s.F 5 = .p (encP cTAuto_Auto r9.1) ∧ s.F 9 = .p (.int .i64 v16) ∧ True := ⟨_, rfl⟩
          obtain ⟨R15, hR15⟩ : ∃ R : ((Unit) ⊕ (Bool)) → GE → St → Prop, R = fun x e s => match x with | .inl _ => e = .exit 0 ∧ s.G = fillKey (cut d G) (d + 1) 2 [.box [.p (.str a0.f0), .p (.sl (a0.f1.map cTState)), .p (.sl (a0.f2.map cTMove))]] ∧ True | .inr r => e = .ret ∧ (r = r0 → Q .ret s) := ⟨_, rfl⟩
          refine lp (ts := []) rfl hL15 I15 R15 ?_ ?_ ?_
          · rw [hI15]
            simp -implicitDefEqProofs only [go_sem, Nat.reduceEqDiff, Nat.reduceAdd, Nat.reduceLT, Nat.reduceLeDiff, Nat.reduceMul, Nat.reduceBEq, reduceIte, gi6, i6, c7, c11, c12]
          · clear h hL15
            rintro v16 y s h i
            rw [hI15] at i
            obtain ⟨gi15, i15⟩ := i
            replace h : m_law09_AutoKeeps_L0 a0 r9 a1 (v16) = some y := h
            unfold m_law09_AutoKeeps_L0 at h
            rcases ib h with ⟨c17, h⟩ | ⟨c17, h⟩
            · obtain ⟨v18, hv18, h⟩ := bs h
              replace hv18 := gis hv18
              obtain ⟨r19, hr19, h⟩ := bs h
              simp -implicitDefEqProofs only [go_sem, Nat.reduceEqDiff, Nat.reduceAdd, Nat.reduceLT, Nat.reduceLeDiff, Nat.reduceMul, Nat.reduceBEq, reduceIte, gi6, i6, c7, c11, c12, gi15, i15, c17, hv18]
              refine call_frz (r' := .p (.int .u32 r19)) (m_auto_Auto_Keeps_ev r9.1 v18.f0 r19 hr19 (d + 1) empty) (by simp -implicitDefEqProofs only [go_sem, Nat.reduceEqDiff, Nat.reduceAdd, Nat.reduceLT, Nat.reduceLeDiff, Nat.reduceMul, Nat.reduceBEq, reduceIte, gi6, i6, c7, c11, c12, gi15, i15, c17, hv18]) rfl (by simp -implicitDefEqProofs only [go_sem, Nat.reduceEqDiff, Nat.reduceAdd, Nat.reduceLT, Nat.reduceLeDiff, Nat.reduceMul, Nat.reduceBEq, reduceIte]) (by simp -implicitDefEqProofs only [go_sem, Nat.reduceEqDiff, Nat.reduceAdd, Nat.reduceLT, Nat.reduceLeDiff, Nat.reduceMul, Nat.reduceBEq, reduceIte]) ?_ rfl rfl
              obtain ⟨r20, hr20, h⟩ := bs h
              simp -implicitDefEqProofs only [go_sem, Nat.reduceEqDiff, Nat.reduceAdd, Nat.reduceLT, Nat.reduceLeDiff, Nat.reduceMul, Nat.reduceBEq, reduceIte, gi6, i6, c7, c11, c12, gi15, i15, c17, hv18]
              refine call_frz (r' := .p (.int .u32 r20)) (m_auto_Auto_Keeps_ev r9.1 v18.f0 r20 hr20 (d + 1) empty) (by simp -implicitDefEqProofs only [go_sem, Nat.reduceEqDiff, Nat.reduceAdd, Nat.reduceLT, Nat.reduceLeDiff, Nat.reduceMul, Nat.reduceBEq, reduceIte, gi6, i6, c7, c11, c12, gi15, i15, c17, hv18]) rfl (by simp -implicitDefEqProofs only [go_sem, Nat.reduceEqDiff, Nat.reduceAdd, Nat.reduceLT, Nat.reduceLeDiff, Nat.reduceMul, Nat.reduceBEq, reduceIte]) (by simp -implicitDefEqProofs only [go_sem, Nat.reduceEqDiff, Nat.reduceAdd, Nat.reduceLT, Nat.reduceLeDiff, Nat.reduceMul, Nat.reduceBEq, reduceIte]) ?_ rfl rfl
              obtain ⟨r21, hr21, h⟩ := bs h
              simp -implicitDefEqProofs only [go_sem, Nat.reduceEqDiff, Nat.reduceAdd, Nat.reduceLT, Nat.reduceLeDiff, Nat.reduceMul, Nat.reduceBEq, reduceIte, gi6, i6, c7, c11, c12, gi15, i15, c17, hv18]
              refine call_frz (r' := .p (.int .u32 r21)) (m_auto_Auto_Enabled_ev r9.1 v18.f0 r21 hr21 (d + 1) empty) (by simp -implicitDefEqProofs only [go_sem, Nat.reduceEqDiff, Nat.reduceAdd, Nat.reduceLT, Nat.reduceLeDiff, Nat.reduceMul, Nat.reduceBEq, reduceIte, gi6, i6, c7, c11, c12, gi15, i15, c17, hv18]) rfl (by simp -implicitDefEqProofs only [go_sem, Nat.reduceEqDiff, Nat.reduceAdd, Nat.reduceLT, Nat.reduceLeDiff, Nat.reduceMul, Nat.reduceBEq, reduceIte]) (by simp -implicitDefEqProofs only [go_sem, Nat.reduceEqDiff, Nat.reduceAdd, Nat.reduceLT, Nat.reduceLeDiff, Nat.reduceMul, Nat.reduceBEq, reduceIte]) ?_ rfl rfl
              rcases ib h with ⟨c22, h⟩ | ⟨c22, h⟩
              · cases h
                simp -implicitDefEqProofs only [go_sem, Nat.reduceEqDiff, Nat.reduceAdd, Nat.reduceLT, Nat.reduceLeDiff, Nat.reduceMul, Nat.reduceBEq, reduceIte, gi6, i6, c7, c11, c12, gi15, i15, c17, hv18, c22]
                rw [hR15]
                refine ⟨rfl, ?_⟩
                intro hr
                subst hr
                subst hQ
                simp -implicitDefEqProofs only [go_sem, Nat.reduceEqDiff, Nat.reduceAdd, Nat.reduceLT, Nat.reduceLeDiff, Nat.reduceMul, Nat.reduceBEq, reduceIte, gi6, i6, c7, c11, c12, gi15, i15, c17, hv18, c22, Try.results5]
              · obtain ⟨r23, hr23, h⟩ := bs h
                simp -implicitDefEqProofs only [go_sem, Nat.reduceEqDiff, Nat.reduceAdd, Nat.reduceLT, Nat.reduceLeDiff, Nat.reduceMul, Nat.reduceBEq, reduceIte, gi6, i6, c7, c11, c12, gi15, i15, c17, hv18, c22]
                refine call_frz (r' := .p (.sl (r23.map cstr))) (m_auto_Auto_Outcomes_ev r9.1 v18.f0 r23 hr23 (d + 1) empty) (by simp -implicitDefEqProofs only [go_sem, Nat.reduceEqDiff, Nat.reduceAdd, Nat.reduceLT, Nat.reduceLeDiff, Nat.reduceMul, Nat.reduceBEq, reduceIte, gi6, i6, c7, c11, c12, gi15, i15, c17, hv18, c22]) rfl (by simp -implicitDefEqProofs only [go_sem, Nat.reduceEqDiff, Nat.reduceAdd, Nat.reduceLT, Nat.reduceLeDiff, Nat.reduceMul, Nat.reduceBEq, reduceIte]) (by simp -implicitDefEqProofs only [go_sem, Nat.reduceEqDiff, Nat.reduceAdd, Nat.reduceLT, Nat.reduceLeDiff, Nat.reduceMul, Nat.reduceBEq, reduceIte]) ?_ rfl rfl
                simp -implicitDefEqProofs only [go_sem, Nat.reduceEqDiff, Nat.reduceAdd, Nat.reduceLT, Nat.reduceLeDiff, Nat.reduceMul, Nat.reduceBEq, reduceIte, gi6, i6, c7, c11, c12, gi15, i15, c17, hv18, c22]
                obtain ⟨z26, hL26, h⟩ := bs h
                obtain ⟨I26, hI26⟩ : ∃ I : Int → St → Prop, I = fun v27 s => s.G = fillKey (cut d G) (d + 1) 2 [.box [.p (.str a0.f0), .p (.sl (a0.f1.map cTState)), .p (.sl (a0.f2.map cTMove))]] ∧ s.F 1 = .p (.int .u32 a1) ∧ s.F 2 = .bp (d + 1, 2, 0) 0 ∧ s.F 5 = .p (encP cTAuto_Auto r9.1) ∧ s.F 9 = .p (.int .i64 v16) ∧ s.F 10 = .p (.str v18.f0) ∧ s.F 11 = .p (.int .u32 (andI .u32 a1 r19)) ∧ s.F 12 = .p (.sl (r23.map cstr)) ∧ s.F 13 = .p (.int .i64 v27) ∧ True := ⟨_, rfl⟩
                obtain ⟨R26, hR26⟩ : ∃ R : ((Unit) ⊕ (Bool)) → GE → St → Prop, R = fun x e s => match x with | .inl _ => e = .exit 2 ∧ s.G = fillKey (cut d G) (d + 1) 2 [.box [.p (.str a0.f0), .p (.sl (a0.f1.map cTState)), .p (.sl (a0.f2.map cTMove))]] ∧ s.F 1 = .p (.int .u32 a1) ∧ s.F 2 = .bp (d + 1, 2, 0) 0 ∧ s.F 5 = .p (encP cTAuto_Auto r9.1) ∧ s.F 9 = .p (.int .i64 v16) ∧ True | .inr r => e = .ret ∧ (r = r0 → Q .ret s) := ⟨_, rfl⟩
                refine lp (ts := []) rfl hL26 I26 R26 ?_ ?_ ?_
                · rw [hI26]
                  simp -implicitDefEqProofs only [go_sem, Nat.reduceEqDiff, Nat.reduceAdd, Nat.reduceLT, Nat.reduceLeDiff, Nat.reduceMul, Nat.reduceBEq, reduceIte, gi6, i6, c7, c11, c12, gi15, i15, c17, hv18, c22]
                · clear h hL26
                  rintro v27 y s h i
                  rw [hI26] at i
                  obtain ⟨gi26, i26⟩ := i
                  replace h : m_law09_AutoKeeps_L1 r23 r9 a1 r19 v18 (v27) = some y := h
                  unfold m_law09_AutoKeeps_L1 at h
                  rcases ib h with ⟨c28, h⟩ | ⟨c28, h⟩
                  · obtain ⟨v29, hv29, h⟩ := bs h
                    replace hv29 := gis hv29
                    obtain ⟨r30, hr30, h⟩ := bs h
                    simp -implicitDefEqProofs only [go_sem, Nat.reduceEqDiff, Nat.reduceAdd, Nat.reduceLT, Nat.reduceLeDiff, Nat.reduceMul, Nat.reduceBEq, reduceIte, gi6, i6, c7, c11, c12, gi15, i15, c17, hv18, c22, gi26, i26, c28, hv29]
                    refine call_frz (r' := .p (.int .u32 r30)) (m_auto_Auto_Step_ev r9.1 (andI .u32 a1 r19) v18.f0 v29 r30 hr30 (d + 1) empty) (by simp -implicitDefEqProofs only [go_sem, Nat.reduceEqDiff, Nat.reduceAdd, Nat.reduceLT, Nat.reduceLeDiff, Nat.reduceMul, Nat.reduceBEq, reduceIte, gi6, i6, c7, c11, c12, gi15, i15, c17, hv18, c22, gi26, i26, c28, hv29]) rfl (by simp -implicitDefEqProofs only [go_sem, Nat.reduceEqDiff, Nat.reduceAdd, Nat.reduceLT, Nat.reduceLeDiff, Nat.reduceMul, Nat.reduceBEq, reduceIte]) (by simp -implicitDefEqProofs only [go_sem, Nat.reduceEqDiff, Nat.reduceAdd, Nat.reduceLT, Nat.reduceLeDiff, Nat.reduceMul, Nat.reduceBEq, reduceIte]) ?_ rfl rfl
                    rcases ib h with ⟨c31, h⟩ | ⟨c31, h⟩
                    · cases h
                      simp -implicitDefEqProofs only [go_sem, Nat.reduceEqDiff, Nat.reduceAdd, Nat.reduceLT, Nat.reduceLeDiff, Nat.reduceMul, Nat.reduceBEq, reduceIte, gi6, i6, c7, c11, c12, gi15, i15, c17, hv18, c22, gi26, i26, c28, hv29, c31]
                      rw [hR26]
                      refine ⟨rfl, ?_⟩
                      intro hr
                      subst hr
                      subst hQ
                      simp -implicitDefEqProofs only [go_sem, Nat.reduceEqDiff, Nat.reduceAdd, Nat.reduceLT, Nat.reduceLeDiff, Nat.reduceMul, Nat.reduceBEq, reduceIte, gi6, i6, c7, c11, c12, gi15, i15, c17, hv18, c22, gi26, i26, c28, hv29, c31, Try.results5]
                    · cases h
                      simp -implicitDefEqProofs only [go_sem, Nat.reduceEqDiff, Nat.reduceAdd, Nat.reduceLT, Nat.reduceLeDiff, Nat.reduceMul, Nat.reduceBEq, reduceIte, gi6, i6, c7, c11, c12, gi15, i15, c17, hv18, c22, gi26, i26, c28, hv29, c31]
                      rw [hI26]
                      simp -implicitDefEqProofs only [go_sem, Nat.reduceEqDiff, Nat.reduceAdd, Nat.reduceLT, Nat.reduceLeDiff, Nat.reduceMul, Nat.reduceBEq, reduceIte, gi6, i6, c7, c11, c12, gi15, i15, c17, hv18, c22, gi26, i26, c28, hv29, c31]
                  · cases h
                    simp -implicitDefEqProofs only [go_sem, Nat.reduceEqDiff, Nat.reduceAdd, Nat.reduceLT, Nat.reduceLeDiff, Nat.reduceMul, Nat.reduceBEq, reduceIte, gi6, i6, c7, c11, c12, gi15, i15, c17, hv18, c22, gi26, i26, c28]
                    rw [hR26]
                    refine ⟨rfl, ?_⟩
                    simp -implicitDefEqProofs only [go_sem, Nat.reduceEqDiff, Nat.reduceAdd, Nat.reduceLT, Nat.reduceLeDiff, Nat.reduceMul, Nat.reduceBEq, reduceIte, gi6, i6, c7, c11, c12, gi15, i15, c17, hv18, c22, gi26, i26, c28]
                · clear hL26 hI26
                  intro e s hr26
                  rw [hR26] at hr26
                  clear hR26
                  rcases z26 with _ | r
                  · try dsimp only at h hr26
                    obtain ⟨rfl, gi32, i32⟩ := hr26
                    cases h
                    simp -implicitDefEqProofs only [go_sem, Nat.reduceEqDiff, Nat.reduceAdd, Nat.reduceLT, Nat.reduceLeDiff, Nat.reduceMul, Nat.reduceBEq, reduceIte, gi6, i6, c7, c11, c12, gi15, i15, c17, hv18, c22, gi32, i32]
                    rw [hI15]
                    simp -implicitDefEqProofs only [go_sem, Nat.reduceEqDiff, Nat.reduceAdd, Nat.reduceLT, Nat.reduceLeDiff, Nat.reduceMul, Nat.reduceBEq, reduceIte, gi6, i6, c7, c11, c12, gi15, i15, c17, hv18, c22, gi32, i32]
                  · try dsimp only at h hr26
                    obtain ⟨rfl, hr26⟩ := hr26
                    cases h
                    try simp -implicitDefEqProofs only [go_sem, Nat.reduceEqDiff, Nat.reduceAdd, Nat.reduceLT, Nat.reduceLeDiff, Nat.reduceMul, Nat.reduceBEq, reduceIte]
                    rw [hR15]
                    exact ⟨rfl, hr26⟩
            · cases h
              simp -implicitDefEqProofs only [go_sem, Nat.reduceEqDiff, Nat.reduceAdd, Nat.reduceLT, Nat.reduceLeDiff, Nat.reduceMul, Nat.reduceBEq, reduceIte, gi6, i6, c7, c11, c12, gi15, i15, c17]
              rw [hR15]
              refine ⟨rfl, ?_⟩
              simp -implicitDefEqProofs only [go_sem, Nat.reduceEqDiff, Nat.reduceAdd, Nat.reduceLT, Nat.reduceLeDiff, Nat.reduceMul, Nat.reduceBEq, reduceIte, gi6, i6, c7, c11, c12, gi15, i15, c17]
          · clear hL15 hI15
            intro e s hr15
            rw [hR15] at hr15
            clear hR15
            rcases z15 with _ | r
            · try dsimp only at h hr15
              obtain ⟨rfl, gi33, i33⟩ := hr15
              cases h
              subst hQ
              simp -implicitDefEqProofs only [go_sem, Nat.reduceEqDiff, Nat.reduceAdd, Nat.reduceLT, Nat.reduceLeDiff, Nat.reduceMul, Nat.reduceBEq, reduceIte, gi6, i6, c7, c11, c12, gi33, i33, Try.results5]
            · try dsimp only at h hr15
              obtain ⟨rfl, hr15⟩ := hr15
              cases h
              try simp -implicitDefEqProofs only [go_sem, Nat.reduceEqDiff, Nat.reduceAdd, Nat.reduceLT, Nat.reduceLeDiff, Nat.reduceMul, Nat.reduceBEq, reduceIte]
              exact hr15 rfl
theorem m_law09_AutoEnds_ev (a0 : TProto) (a1 : Int) (r0 : Bool) (h : m_law09_AutoEnds a0 a1 = some r0) (d : Nat) (G : Heap) : Tel Try.prog TB d 6 [.agg ((cTProto a0).map .p), .p (.int .u8 a1)] G (.p (.bool r0)) G := by
  unfold m_law09_AutoEnds at h
  refine Tel.intro mix Try.func6 rfl (Nat.le_of_ble_eq_true rfl) {frzAt := fun t => t == 16 || t == 20 || t == 23 || t == 26 || t == 31 || t == 48 || t == 58 || t == 73 || t == 91 || t == 98 || t == 100} (by kernel_rfl) (by kernel_rfl) ?_
  generalize hQ : callPost _ _ _ _ _ = Q
  obtain ⟨r1, hr1, h⟩ := bs h
  simp -implicitDefEqProofs only [go_sem, Nat.reduceEqDiff, Nat.reduceAdd, Nat.reduceLT, Nat.reduceLeDiff, Nat.reduceMul, Nat.reduceBEq, reduceIte]
  refine call_frz (r' := .p (.bool r1)) (args := []) (caps := []) (m_law09_awake_ev  r1 hr1 (d + 1) empty) (wkRs_refl []) rfl (by simp -implicitDefEqProofs only [go_sem, Nat.reduceEqDiff, Nat.reduceAdd, Nat.reduceLT, Nat.reduceLeDiff, Nat.reduceMul, Nat.reduceBEq, reduceIte]) (by simp -implicitDefEqProofs only [go_sem, Nat.reduceEqDiff, Nat.reduceAdd, Nat.reduceLT, Nat.reduceLeDiff, Nat.reduceMul, Nat.reduceBEq, reduceIte]) ?_ rfl rfl
  simp -implicitDefEqProofs only [go_sem, Nat.reduceEqDiff, Nat.reduceAdd, Nat.reduceLT, Nat.reduceLeDiff, Nat.reduceMul, Nat.reduceBEq, reduceIte]
  obtain ⟨v2, hz, h⟩ := bs h
  obtain ⟨R3, hR3⟩ : ∃ R : St → Prop, R = fun s => s.G = fillKey (cut d G) (d + 1) 2 [.box [.p (.str a0.f0), .p (.sl (a0.f1.map cTState)), .p (.sl (a0.f2.map cTMove))]] ∧ s.F 1 = .p (.int .u8 a1) ∧ s.F 2 = .bp (d + 1, 2, 0) 0 ∧ s.F 22 = .p (.bool v2) ∧ True := ⟨_, rfl⟩
  refine cutR R3 ?_ ?_
  · replace h := hz
    rcases ib h with ⟨c4, h⟩ | ⟨c4, h⟩
    · cases h
      simp -implicitDefEqProofs only [go_sem, Nat.reduceEqDiff, Nat.reduceAdd, Nat.reduceLT, Nat.reduceLeDiff, Nat.reduceMul, Nat.reduceBEq, reduceIte, c4]
      rw [hR3]
      simp -implicitDefEqProofs only [go_sem, Nat.reduceEqDiff, Nat.reduceAdd, Nat.reduceLT, Nat.reduceLeDiff, Nat.reduceMul, Nat.reduceBEq, reduceIte, c4]
    · obtain ⟨r5, hr5, h⟩ := bs h
      simp -implicitDefEqProofs only [go_sem, Nat.reduceEqDiff, Nat.reduceAdd, Nat.reduceLT, Nat.reduceLeDiff, Nat.reduceMul, Nat.reduceBEq, reduceIte, c4]
      refine call_frz (r' := .p (.bool r5)) (m_ref09_Small_ev a0 r5 hr5 (d + 1) empty) (by simp -implicitDefEqProofs only [go_sem, Nat.reduceEqDiff, Nat.reduceAdd, Nat.reduceLT, Nat.reduceLeDiff, Nat.reduceMul, Nat.reduceBEq, reduceIte, c4]) rfl (by simp -implicitDefEqProofs only [go_sem, Nat.reduceEqDiff, Nat.reduceAdd, Nat.reduceLT, Nat.reduceLeDiff, Nat.reduceMul, Nat.reduceBEq, reduceIte]) (by simp -implicitDefEqProofs only [go_sem, Nat.reduceEqDiff, Nat.reduceAdd, Nat.reduceLT, Nat.reduceLeDiff, Nat.reduceMul, Nat.reduceBEq, reduceIte]) ?_ rfl rfl
      cases h
      simp -implicitDefEqProofs only [go_sem, Nat.reduceEqDiff, Nat.reduceAdd, Nat.reduceLT, Nat.reduceLeDiff, Nat.reduceMul, Nat.reduceBEq, reduceIte, c4]
      rw [hR3]
      simp -implicitDefEqProofs only [go_sem, Nat.reduceEqDiff, Nat.reduceAdd, Nat.reduceLT, Nat.reduceLeDiff, Nat.reduceMul, Nat.reduceBEq, reduceIte, c4]
  · replace h := h; clear hz
    rintro s i
    rw [hR3] at i
    obtain ⟨gi6, i6⟩ := i
    clear hR3
    try dsimp only at h
    rcases ib h with ⟨c7, h⟩ | ⟨c7, h⟩
    · obtain ⟨r8, hr8, h⟩ := bs h
      simp -implicitDefEqProofs only [go_sem, Nat.reduceEqDiff, Nat.reduceAdd, Nat.reduceLT, Nat.reduceLeDiff, Nat.reduceMul, Nat.reduceBEq, reduceIte, gi6, i6, c7]
      try refine gCall_eta gi6 ?_
      refine call_frz (r' := .p (.bool r8)) (args := []) (caps := []) (m_law09_awake_ev  r8 hr8 (d + 1) empty) (wkRs_refl []) rfl (by simp -implicitDefEqProofs only [go_sem, Nat.reduceEqDiff, Nat.reduceAdd, Nat.reduceLT, Nat.reduceLeDiff, Nat.reduceMul, Nat.reduceBEq, reduceIte]) (by simp -implicitDefEqProofs only [go_sem, Nat.reduceEqDiff, Nat.reduceAdd, Nat.reduceLT, Nat.reduceLeDiff, Nat.reduceMul, Nat.reduceBEq, reduceIte]) ?_ rfl rfl
      cases h
      subst hQ
      simp -implicitDefEqProofs only [go_sem, Nat.reduceEqDiff, Nat.reduceAdd, Nat.reduceLT, Nat.reduceLeDiff, Nat.reduceMul, Nat.reduceBEq, reduceIte, gi6, i6, c7, Try.results6]
    · obtain ⟨r9, hr9, h⟩ := bs h
      simp -implicitDefEqProofs only [go_sem, Nat.reduceEqDiff, Nat.reduceAdd, Nat.reduceLT, Nat.reduceLeDiff, Nat.reduceMul, Nat.reduceBEq, reduceIte, gi6, i6, c7]
      refine call_frz (r' := .tup [.p (encP cTAuto_Auto r9.1), .p (.int .i64 r9.2)]) (m_auto_New_ev a0 r9 hr9 (d + 1) empty) (by simp -implicitDefEqProofs only [go_sem, Nat.reduceEqDiff, Nat.reduceAdd, Nat.reduceLT, Nat.reduceLeDiff, Nat.reduceMul, Nat.reduceBEq, reduceIte, gi6, i6, c7]) rfl (by simp -implicitDefEqProofs only [go_sem, Nat.reduceEqDiff, Nat.reduceAdd, Nat.reduceLT, Nat.reduceLeDiff, Nat.reduceMul, Nat.reduceBEq, reduceIte]) (by simp -implicitDefEqProofs only [go_sem, Nat.reduceEqDiff, Nat.reduceAdd, Nat.reduceLT, Nat.reduceLeDiff, Nat.reduceMul, Nat.reduceBEq, reduceIte]) ?_ rfl rfl
      obtain ⟨r10, hr10, h⟩ := bs h
      simp -implicitDefEqProofs only [go_sem, Nat.reduceEqDiff, Nat.reduceAdd, Nat.reduceLT, Nat.reduceLeDiff, Nat.reduceMul, Nat.reduceBEq, reduceIte, gi6, i6, c7]
      refine call_frz (r' := .tup [.p (.int .i64 r10.1), .p (.int .i64 r10.2)]) (m_ref09_Wrong_ev a0 r10 hr10 (d + 1) empty) (by simp -implicitDefEqProofs only [go_sem, Nat.reduceEqDiff, Nat.reduceAdd, Nat.reduceLT, Nat.reduceLeDiff, Nat.reduceMul, Nat.reduceBEq, reduceIte, gi6, i6, c7]) rfl (by simp -implicitDefEqProofs only [go_sem, Nat.reduceEqDiff, Nat.reduceAdd, Nat.reduceLT, Nat.reduceLeDiff, Nat.reduceMul, Nat.reduceBEq, reduceIte]) (by simp -implicitDefEqProofs only [go_sem, Nat.reduceEqDiff, Nat.reduceAdd, Nat.reduceLT, Nat.reduceLeDiff, Nat.reduceMul, Nat.reduceBEq, reduceIte]) ?_ rfl rfl
      rcases ib h with ⟨c11, h⟩ | ⟨c11, h⟩
      · cases h
        subst hQ
        simp -implicitDefEqProofs only [go_sem, Nat.reduceEqDiff, Nat.reduceAdd, Nat.reduceLT, Nat.reduceLeDiff, Nat.reduceMul, Nat.reduceBEq, reduceIte, gi6, i6, c7, c11, Try.results6]
      · rcases ib h with ⟨c12, h⟩ | ⟨c12, h⟩
        · cases h
          subst hQ
          simp -implicitDefEqProofs only [go_sem, Nat.reduceEqDiff, Nat.reduceAdd, Nat.reduceLT, Nat.reduceLeDiff, Nat.reduceMul, Nat.reduceBEq, reduceIte, gi6, i6, c7, c11, c12, Try.results6]
        · obtain ⟨_, c13, h⟩ := bs h
          replace c13 := rqs c13
          obtain ⟨_, c14, h⟩ := bs h
          replace c14 := rqs c14
          obtain ⟨r15, hr15, h⟩ := bs h
          simp -implicitDefEqProofs only [go_sem, Nat.reduceEqDiff, Nat.reduceAdd, Nat.reduceLT, Nat.reduceLeDiff, Nat.reduceMul, Nat.reduceBEq, reduceIte, gi6, i6, c7, c11, c12, c13, c14]
          refine call_frz (r' := .p (.sl (r15.map cstr))) (m_auto_Auto_Ops_ev r9.1 r15 hr15 (d + 1) empty) (by simp -implicitDefEqProofs only [go_sem, Nat.reduceEqDiff, Nat.reduceAdd, Nat.reduceLT, Nat.reduceLeDiff, Nat.reduceMul, Nat.reduceBEq, reduceIte, gi6, i6, c7, c11, c12, c13, c14]) rfl (by simp -implicitDefEqProofs only [go_sem, Nat.reduceEqDiff, Nat.reduceAdd, Nat.reduceLT, Nat.reduceLeDiff, Nat.reduceMul, Nat.reduceBEq, reduceIte]) (by simp -implicitDefEqProofs only [go_sem, Nat.reduceEqDiff, Nat.reduceAdd, Nat.reduceLT, Nat.reduceLeDiff, Nat.reduceMul, Nat.reduceBEq, reduceIte]) ?_ rfl rfl
          simp -implicitDefEqProofs only [go_sem, Nat.reduceEqDiff, Nat.reduceAdd, Nat.reduceLT, Nat.reduceLeDiff, Nat.reduceMul, Nat.reduceBEq, reduceIte, gi6, i6, c7, c11, c12, c13, c14]
          obtain ⟨z20, hL20, h⟩ := bs h
          obtain ⟨I20, hI20⟩ : ∃ I : (Int × Int) → St → Prop, I = fun a s => match a with | (v21, v22) => s.G = fillKey (cut d G) (d + 1) 2 [.box [.p (.str a0.f0), .p (.sl (a0.f1.map cTState)), .p (.sl (a0.f2.map cTMove))]] ∧ s.F 2 = .bp (d + 1, 2, 0) 0 ∧ s.F 5 = .p (encP cTAuto_Auto r9.1) ∧ s.F 9 = .p (.int .u32 v21) ∧ s.F 10 = .p (.sl (r15.map cstr)) ∧ s.F 11 = .p (.int .i64 v22) ∧ True := ⟨_, rfl⟩
          obtain ⟨R20, hR20⟩ : ∃ R : ((Unit) ⊕ (Bool)) → GE → St → Prop, R = fun x e s => match x with | .inl _ => e = .exit 0 ∧ s.G = fillKey (cut d G) (d + 1) 2 [.box [.p (.str a0.f0), .p (.sl (a0.f1.map cTState)), .p (.sl (a0.f2.map cTMove))]] ∧ True | .inr r => e = .ret ∧ (r = r0 → Q .ret s) := ⟨_, rfl⟩
          refine lp (ts := []) rfl hL20 I20 R20 ?_ ?_ ?_
          · rw [hI20]
            simp -implicitDefEqProofs only [go_sem, Nat.reduceEqDiff, Nat.reduceAdd, Nat.reduceLT, Nat.reduceLeDiff, Nat.reduceMul, Nat.reduceBEq, reduceIte, gi6, i6, c7, c11, c12, c13, c14]
          · clear h hL20
            rintro ⟨v21, v22⟩ y s h i
            rw [hI20] at i
            obtain ⟨gi20, i20⟩ := i
            replace h : m_law09_AutoEnds_L0 a0 r9 r15 (v21, v22) = some y := h
            unfold m_law09_AutoEnds_L0 at h
            rcases ib h with ⟨c23, h⟩ | ⟨c23, h⟩
            · obtain ⟨r24, hr24, h⟩ := bs h
              simp -implicitDefEqProofs only [go_sem, Nat.reduceEqDiff, Nat.reduceAdd, Nat.reduceLT, Nat.reduceLeDiff, Nat.reduceMul, Nat.reduceBEq, reduceIte, gi6, i6, c7, c11, c12, c13, c14, gi20, i20, c23]
              refine call_frz (r' := .p (.int .u32 r24)) (m_auto_Auto_Finals_ev r9.1 r24 hr24 (d + 1) empty) (by simp -implicitDefEqProofs only [go_sem, Nat.reduceEqDiff, Nat.reduceAdd, Nat.reduceLT, Nat.reduceLeDiff, Nat.reduceMul, Nat.reduceBEq, reduceIte, gi6, i6, c7, c11, c12, c13, c14, gi20, i20, c23]) rfl (by simp -implicitDefEqProofs only [go_sem, Nat.reduceEqDiff, Nat.reduceAdd, Nat.reduceLT, Nat.reduceLeDiff, Nat.reduceMul, Nat.reduceBEq, reduceIte]) (by simp -implicitDefEqProofs only [go_sem, Nat.reduceEqDiff, Nat.reduceAdd, Nat.reduceLT, Nat.reduceLeDiff, Nat.reduceMul, Nat.reduceBEq, reduceIte]) ?_ rfl rfl
              rcases ib h with ⟨c25, h⟩ | ⟨c25, h⟩
              · cases h
                simp -implicitDefEqProofs only [go_sem, Nat.reduceEqDiff, Nat.reduceAdd, Nat.reduceLT, Nat.reduceLeDiff, Nat.reduceMul, Nat.reduceBEq, reduceIte, gi6, i6, c7, c11, c12, c13, c14, gi20, i20, c23, c25]
                rw [hR20]
                refine ⟨rfl, ?_⟩
                intro hr
                subst hr
                subst hQ
                simp -implicitDefEqProofs only [go_sem, Nat.reduceEqDiff, Nat.reduceAdd, Nat.reduceLT, Nat.reduceLeDiff, Nat.reduceMul, Nat.reduceBEq, reduceIte, gi6, i6, c7, c11, c12, c13, c14, gi20, i20, c23, c25, Try.results6]
              · simp -implicitDefEqProofs only [go_sem, Nat.reduceEqDiff, Nat.reduceAdd, Nat.reduceLT, Nat.reduceLeDiff, Nat.reduceMul, Nat.reduceBEq, reduceIte, gi6, i6, c7, c11, c12, c13, c14, gi20, i20, c23, c25]
                obtain ⟨z30, hL30, h⟩ := bs h
                obtain ⟨I30, hI30⟩ : ∃ I : (Int × Int) → St → Prop, I = fun a s => match a with | (v31, v32) => s.G = fillKey (cut d G) (d + 1) 2 [.box [.p (.str a0.f0), .p (.sl (a0.f1.map cTState)), .p (.sl (a0.f2.map cTMove))]] ∧ s.F 2 = .bp (d + 1, 2, 0) 0 ∧ s.F 5 = .p (encP cTAuto_Auto r9.1) ∧ s.F 9 = .p (.int .u32 v21) ∧ s.F 10 = .p (.sl (r15.map cstr)) ∧ s.F 11 = .p (.int .i64 v22) ∧ s.F 12 = .p (.int .u32 v31) ∧ s.F 13 = .p (.int .i64 v32) ∧ True := ⟨_, rfl⟩
                obtain ⟨R30, hR30⟩ : ∃ R : ((Int) ⊕ (Bool)) → GE → St → Prop, R = fun x e s => match x with | .inl v33 => e = .exit 2 ∧ s.G = fillKey (cut d G) (d + 1) 2 [.box [.p (.str a0.f0), .p (.sl (a0.f1.map cTState)), .p (.sl (a0.f2.map cTMove))]] ∧ s.F 2 = .bp (d + 1, 2, 0) 0 ∧ s.F 5 = .p (encP cTAuto_Auto r9.1) ∧ s.F 10 = .p (.sl (r15.map cstr)) ∧ s.F 11 = .p (.int .i64 v22) ∧ s.F 12 = .p (.int .u32 v33) ∧ True | .inr r => e = .ret ∧ (r = r0 → Q .ret s) := ⟨_, rfl⟩
                refine lp (ts := []) rfl hL30 I30 R30 ?_ ?_ ?_
                · rw [hI30]
                  simp -implicitDefEqProofs only [go_sem, Nat.reduceEqDiff, Nat.reduceAdd, Nat.reduceLT, Nat.reduceLeDiff, Nat.reduceMul, Nat.reduceBEq, reduceIte, gi6, i6, c7, c11, c12, c13, c14, gi20, i20, c23, c25]
                · clear h hL30
                  rintro ⟨v31, v32⟩ y s h i
                  rw [hI30] at i
                  obtain ⟨gi30, i30⟩ := i
                  replace h : m_law09_AutoEnds_L1 r15 r9 v21 (v31, v32) = some y := h
                  unfold m_law09_AutoEnds_L1 at h
                  rcases ib h with ⟨c34, h⟩ | ⟨c34, h⟩
                  · obtain ⟨v35, hv35, h⟩ := bs h
                    replace hv35 := gis hv35
                    obtain ⟨r36, hr36, h⟩ := bs h
                    simp -implicitDefEqProofs only [go_sem, Nat.reduceEqDiff, Nat.reduceAdd, Nat.reduceLT, Nat.reduceLeDiff, Nat.reduceMul, Nat.reduceBEq, reduceIte, gi6, i6, c7, c11, c12, c13, c14, gi20, i20, c23, c25, gi30, i30, c34, hv35]
                    refine call_frz (r' := .p (.sl (r36.map cstr))) (m_auto_Auto_Outcomes_ev r9.1 v35 r36 hr36 (d + 1) empty) (by simp -implicitDefEqProofs only [go_sem, Nat.reduceEqDiff, Nat.reduceAdd, Nat.reduceLT, Nat.reduceLeDiff, Nat.reduceMul, Nat.reduceBEq, reduceIte, gi6, i6, c7, c11, c12, c13, c14, gi20, i20, c23, c25, gi30, i30, c34, hv35]) rfl (by simp -implicitDefEqProofs only [go_sem, Nat.reduceEqDiff, Nat.reduceAdd, Nat.reduceLT, Nat.reduceLeDiff, Nat.reduceMul, Nat.reduceBEq, reduceIte]) (by simp -implicitDefEqProofs only [go_sem, Nat.reduceEqDiff, Nat.reduceAdd, Nat.reduceLT, Nat.reduceLeDiff, Nat.reduceMul, Nat.reduceBEq, reduceIte]) ?_ rfl rfl
                    simp -implicitDefEqProofs only [go_sem, Nat.reduceEqDiff, Nat.reduceAdd, Nat.reduceLT, Nat.reduceLeDiff, Nat.reduceMul, Nat.reduceBEq, reduceIte, gi6, i6, c7, c11, c12, c13, c14, gi20, i20, c23, c25, gi30, i30, c34, hv35]
                    obtain ⟨z41, hL41, h⟩ := bs h
                    obtain ⟨I41, hI41⟩ : ∃ I : (Int × Int) → St → Prop, I = fun a s => match a with | (v42, v43) => s.G = fillKey (cut d G) (d + 1) 2 [.box [.p (.str a0.f0), .p (.sl (a0.f1.map cTState)), .p (.sl (a0.f2.map cTMove))]] ∧ s.F 2 = .bp (d + 1, 2, 0) 0 ∧ s.F 5 = .p (encP cTAuto_Auto r9.1) ∧ s.F 9 = .p (.int .u32 v21) ∧ s.F 10 = .p (.sl (r15.map cstr)) ∧ s.F 11 = .p (.int .i64 v22) ∧ s.F 12 = .p (.int .u32 v42) ∧ s.F 13 = .p (.int .i64 v32) ∧ s.F 14 = .p (.sl (r36.map cstr)) ∧ s.F 15 = .p (.int .i64 v43) ∧ True := ⟨_, rfl⟩
                    obtain ⟨R41, hR41⟩ : ∃ R : (Int) → GE → St → Prop, R = fun v44 e s => e = .exit 4 ∧ s.G = fillKey (cut d G) (d + 1) 2 [.box [.p (.str a0.f0), .p (.sl (a0.f1.map cTState)), .p (.sl (a0.f2.map cTMove))]] ∧ s.F 2 = .bp (d + 1, 2, 0) 0 ∧ s.F 5 = .p (encP cTAuto_Auto r9.1) ∧ s.F 9 = .p (.int .u32 v21) ∧ s.F 10 = .p (.sl (r15.map cstr)) ∧ s.F 11 = .p (.int .i64 v22) ∧ s.F 12 = .p (.int .u32 v44) ∧ s.F 13 = .p (.int .i64 v32) ∧ True := ⟨_, rfl⟩
                    refine lp (ts := []) rfl hL41 I41 R41 ?_ ?_ ?_
                    · rw [hI41]
                      simp -implicitDefEqProofs only [go_sem, Nat.reduceEqDiff, Nat.reduceAdd, Nat.reduceLT, Nat.reduceLeDiff, Nat.reduceMul, Nat.reduceBEq, reduceIte, gi6, i6, c7, c11, c12, c13, c14, gi20, i20, c23, c25, gi30, i30, c34, hv35]
                    · clear h hL41
                      rintro ⟨v42, v43⟩ y s h i
                      rw [hI41] at i
                      obtain ⟨gi41, i41⟩ := i
                      replace h : m_law09_AutoEnds_L2 r36 r9 v21 v35 (v42, v43) = some y := h
                      unfold m_law09_AutoEnds_L2 at h
                      rcases ib h with ⟨c45, h⟩ | ⟨c45, h⟩
                      · obtain ⟨v46, hv46, h⟩ := bs h
                        replace hv46 := gis hv46
                        obtain ⟨r47, hr47, h⟩ := bs h
                        simp -implicitDefEqProofs only [go_sem, Nat.reduceEqDiff, Nat.reduceAdd, Nat.reduceLT, Nat.reduceLeDiff, Nat.reduceMul, Nat.reduceBEq, reduceIte, gi6, i6, c7, c11, c12, c13, c14, gi20, i20, c23, c25, gi30, i30, c34, hv35, gi41, i41, c45, hv46]
                        refine call_frz (r' := .p (.int .u32 r47)) (m_auto_Auto_Step_ev r9.1 v21 v35 v46 r47 hr47 (d + 1) empty) (by simp -implicitDefEqProofs only [go_sem, Nat.reduceEqDiff, Nat.reduceAdd, Nat.reduceLT, Nat.reduceLeDiff, Nat.reduceMul, Nat.reduceBEq, reduceIte, gi6, i6, c7, c11, c12, c13, c14, gi20, i20, c23, c25, gi30, i30, c34, hv35, gi41, i41, c45, hv46]) rfl (by simp -implicitDefEqProofs only [go_sem, Nat.reduceEqDiff, Nat.reduceAdd, Nat.reduceLT, Nat.reduceLeDiff, Nat.reduceMul, Nat.reduceBEq, reduceIte]) (by simp -implicitDefEqProofs only [go_sem, Nat.reduceEqDiff, Nat.reduceAdd, Nat.reduceLT, Nat.reduceLeDiff, Nat.reduceMul, Nat.reduceBEq, reduceIte]) ?_ rfl rfl
                        cases h
                        simp -implicitDefEqProofs only [go_sem, Nat.reduceEqDiff, Nat.reduceAdd, Nat.reduceLT, Nat.reduceLeDiff, Nat.reduceMul, Nat.reduceBEq, reduceIte, gi6, i6, c7, c11, c12, c13, c14, gi20, i20, c23, c25, gi30, i30, c34, hv35, gi41, i41, c45, hv46]
                        rw [hI41]
                        simp -implicitDefEqProofs only [go_sem, Nat.reduceEqDiff, Nat.reduceAdd, Nat.reduceLT, Nat.reduceLeDiff, Nat.reduceMul, Nat.reduceBEq, reduceIte, gi6, i6, c7, c11, c12, c13, c14, gi20, i20, c23, c25, gi30, i30, c34, hv35, gi41, i41, c45, hv46]
                      · cases h
                        simp -implicitDefEqProofs only [go_sem, Nat.reduceEqDiff, Nat.reduceAdd, Nat.reduceLT, Nat.reduceLeDiff, Nat.reduceMul, Nat.reduceBEq, reduceIte, gi6, i6, c7, c11, c12, c13, c14, gi20, i20, c23, c25, gi30, i30, c34, hv35, gi41, i41, c45]
                        rw [hR41]
                        refine ⟨rfl, ?_⟩
                        simp -implicitDefEqProofs only [go_sem, Nat.reduceEqDiff, Nat.reduceAdd, Nat.reduceLT, Nat.reduceLeDiff, Nat.reduceMul, Nat.reduceBEq, reduceIte, gi6, i6, c7, c11, c12, c13, c14, gi20, i20, c23, c25, gi30, i30, c34, hv35, gi41, i41, c45]
                    · clear hL41 hI41
                      intro e s hr41
                      rw [hR41] at hr41
                      clear hR41
                      revert h hr41
                      generalize z41 = v44
                      intro h hr41
                      try dsimp only at h hr41
                      obtain ⟨rfl, gi48, i48⟩ := hr41
                      obtain ⟨r49, hr49, h⟩ := bs h
                      simp -implicitDefEqProofs only [go_sem, Nat.reduceEqDiff, Nat.reduceAdd, Nat.reduceLT, Nat.reduceLeDiff, Nat.reduceMul, Nat.reduceBEq, reduceIte, gi6, i6, c7, c11, c12, c13, c14, gi20, i20, c23, c25, gi30, i30, c34, hv35, gi48, i48]
                      refine call_frz (r' := .p (.int .u32 r49)) (m_auto_Auto_Enabled_ev r9.1 v35 r49 hr49 (d + 1) empty) (by simp -implicitDefEqProofs only [go_sem, Nat.reduceEqDiff, Nat.reduceAdd, Nat.reduceLT, Nat.reduceLeDiff, Nat.reduceMul, Nat.reduceBEq, reduceIte, gi6, i6, c7, c11, c12, c13, c14, gi20, i20, c23, c25, gi30, i30, c34, hv35, gi48, i48]) rfl (by simp -implicitDefEqProofs only [go_sem, Nat.reduceEqDiff, Nat.reduceAdd, Nat.reduceLT, Nat.reduceLeDiff, Nat.reduceMul, Nat.reduceBEq, reduceIte]) (by simp -implicitDefEqProofs only [go_sem, Nat.reduceEqDiff, Nat.reduceAdd, Nat.reduceLT, Nat.reduceLeDiff, Nat.reduceMul, Nat.reduceBEq, reduceIte]) ?_ rfl rfl
                      obtain ⟨r50, hr50, h⟩ := bs h
                      simp -implicitDefEqProofs only [go_sem, Nat.reduceEqDiff, Nat.reduceAdd, Nat.reduceLT, Nat.reduceLeDiff, Nat.reduceMul, Nat.reduceBEq, reduceIte, gi6, i6, c7, c11, c12, c13, c14, gi20, i20, c23, c25, gi30, i30, c34, hv35, gi48, i48]
                      refine call_frz (r' := .p (.int .u32 r50)) (m_auto_Auto_Finals_ev r9.1 r50 hr50 (d + 1) empty) (by simp -implicitDefEqProofs only [go_sem, Nat.reduceEqDiff, Nat.reduceAdd, Nat.reduceLT, Nat.reduceLeDiff, Nat.reduceMul, Nat.reduceBEq, reduceIte, gi6, i6, c7, c11, c12, c13, c14, gi20, i20, c23, c25, gi30, i30, c34, hv35, gi48, i48]) rfl (by simp -implicitDefEqProofs only [go_sem, Nat.reduceEqDiff, Nat.reduceAdd, Nat.reduceLT, Nat.reduceLeDiff, Nat.reduceMul, Nat.reduceBEq, reduceIte]) (by simp -implicitDefEqProofs only [go_sem, Nat.reduceEqDiff, Nat.reduceAdd, Nat.reduceLT, Nat.reduceLeDiff, Nat.reduceMul, Nat.reduceBEq, reduceIte]) ?_ rfl rfl
                      rcases ib h with ⟨c51, h⟩ | ⟨c51, h⟩
                      · cases h
                        simp -implicitDefEqProofs only [go_sem, Nat.reduceEqDiff, Nat.reduceAdd, Nat.reduceLT, Nat.reduceLeDiff, Nat.reduceMul, Nat.reduceBEq, reduceIte, gi6, i6, c7, c11, c12, c13, c14, gi20, i20, c23, c25, gi30, i30, c34, hv35, gi48, i48, c51]
                        rw [hR30]
                        refine ⟨rfl, ?_⟩
                        intro hr
                        subst hr
                        subst hQ
                        simp -implicitDefEqProofs only [go_sem, Nat.reduceEqDiff, Nat.reduceAdd, Nat.reduceLT, Nat.reduceLeDiff, Nat.reduceMul, Nat.reduceBEq, reduceIte, gi6, i6, c7, c11, c12, c13, c14, gi20, i20, c23, c25, gi30, i30, c34, hv35, gi48, i48, c51, Try.results6]
                      · cases h
                        simp -implicitDefEqProofs only [go_sem, Nat.reduceEqDiff, Nat.reduceAdd, Nat.reduceLT, Nat.reduceLeDiff, Nat.reduceMul, Nat.reduceBEq, reduceIte, gi6, i6, c7, c11, c12, c13, c14, gi20, i20, c23, c25, gi30, i30, c34, hv35, gi48, i48, c51]
                        rw [hI30]
                        simp -implicitDefEqProofs only [go_sem, Nat.reduceEqDiff, Nat.reduceAdd, Nat.reduceLT, Nat.reduceLeDiff, Nat.reduceMul, Nat.reduceBEq, reduceIte, gi6, i6, c7, c11, c12, c13, c14, gi20, i20, c23, c25, gi30, i30, c34, hv35, gi48, i48, c51]
                  · cases h
                    simp -implicitDefEqProofs only [go_sem, Nat.reduceEqDiff, Nat.reduceAdd, Nat.reduceLT, Nat.reduceLeDiff, Nat.reduceMul, Nat.reduceBEq, reduceIte, gi6, i6, c7, c11, c12, c13, c14, gi20, i20, c23, c25, gi30, i30, c34]
                    rw [hR30]
                    refine ⟨rfl, ?_⟩
                    simp -implicitDefEqProofs only [go_sem, Nat.reduceEqDiff, Nat.reduceAdd, Nat.reduceLT, Nat.reduceLeDiff, Nat.reduceMul, Nat.reduceBEq, reduceIte, gi6, i6, c7, c11, c12, c13, c14, gi20, i20, c23, c25, gi30, i30, c34]
                · clear hL30 hI30
                  intro e s hr30
                  rw [hR30] at hr30
                  clear hR30
                  rcases z30 with v33 | r
                  · try dsimp only at h hr30
                    obtain ⟨rfl, gi52, i52⟩ := hr30
                    cases h
                    simp -implicitDefEqProofs only [go_sem, Nat.reduceEqDiff, Nat.reduceAdd, Nat.reduceLT, Nat.reduceLeDiff, Nat.reduceMul, Nat.reduceBEq, reduceIte, gi6, i6, c7, c11, c12, c13, c14, gi20, i20, c23, c25, gi52, i52]
                    rw [hI20]
                    simp -implicitDefEqProofs only [go_sem, Nat.reduceEqDiff, Nat.reduceAdd, Nat.reduceLT, Nat.reduceLeDiff, Nat.reduceMul, Nat.reduceBEq, reduceIte, gi6, i6, c7, c11, c12, c13, c14, gi20, i20, c23, c25, gi52, i52]
                  · try dsimp only at h hr30
                    obtain ⟨rfl, hr30⟩ := hr30
                    cases h
                    try simp -implicitDefEqProofs only [go_sem, Nat.reduceEqDiff, Nat.reduceAdd, Nat.reduceLT, Nat.reduceLeDiff, Nat.reduceMul, Nat.reduceBEq, reduceIte]
                    rw [hR20]
                    exact ⟨rfl, hr30⟩
            · cases h
              simp -implicitDefEqProofs only [go_sem, Nat.reduceEqDiff, Nat.reduceAdd, Nat.reduceLT, Nat.reduceLeDiff, Nat.reduceMul, Nat.reduceBEq, reduceIte, gi6, i6, c7, c11, c12, c13, c14, gi20, i20, c23]
              rw [hR20]
              refine ⟨rfl, ?_⟩
              simp -implicitDefEqProofs only [go_sem, Nat.reduceEqDiff, Nat.reduceAdd, Nat.reduceLT, Nat.reduceLeDiff, Nat.reduceMul, Nat.reduceBEq, reduceIte, gi6, i6, c7, c11, c12, c13, c14, gi20, i20, c23]
          · clear hL20 hI20
            intro e s hr20
            rw [hR20] at hr20
            clear hR20
            rcases z20 with _ | r
            · try dsimp only at h hr20
              obtain ⟨rfl, gi53, i53⟩ := hr20
              cases h
              subst hQ
              simp -implicitDefEqProofs only [go_sem, Nat.reduceEqDiff, Nat.reduceAdd, Nat.reduceLT, Nat.reduceLeDiff, Nat.reduceMul, Nat.reduceBEq, reduceIte, gi6, i6, c7, c11, c12, c13, c14, gi53, i53, Try.results6]
            · try dsimp only at h hr20
              obtain ⟨rfl, hr20⟩ := hr20
              cases h
              try simp -implicitDefEqProofs only [go_sem, Nat.reduceEqDiff, Nat.reduceAdd, Nat.reduceLT, Nat.reduceLeDiff, Nat.reduceMul, Nat.reduceBEq, reduceIte]
              exact hr20 rfl
end Go.E
