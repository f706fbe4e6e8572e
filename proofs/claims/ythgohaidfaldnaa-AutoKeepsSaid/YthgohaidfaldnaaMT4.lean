import Derived.Test.YthgohaidfaldnaaMT3
set_option linter.all false
set_option maxRecDepth 100000
namespace Go.E
open Go Go.Proofs Go.Eng
variable {TB : Nat → Option Obj}
theorem m_law09_AutoTells_ev (a0 : TProto) (a1 : ByteArray) (a2 : ByteArray) (r0 : Bool) (h : m_law09_AutoTells a0 a1 a2 = some r0) (d : Nat) (G : Heap) : Tel Try.prog TB d 7 [.agg ((cTProto a0).map .p), .p (.str a1), .p (.str a2)] G (.p (.bool r0)) G := by
  unfold m_law09_AutoTells at h
  refine Tel.intro mix Try.func7 rfl (Nat.le_of_ble_eq_true rfl) {frzAt := fun t => t == 19 || t == 23 || t == 36 || t == 39 || t == 44 || t == 55 || t == 57 || t == 58 || t == 63 || t == 65 || t == 89 || t == 92 || t == 93 || t == 98 || t == 101 || t == 107 || t == 110 || t == 123 || t == 127 || t == 128 || t == 145 || t == 167} (by kernel_rfl) (by kernel_rfl) ?_
  generalize hQ : callPost _ _ _ _ _ = Q
  obtain ⟨r1, hr1, h⟩ := bs h
  simp -implicitDefEqProofs only [go_sem, Nat.reduceEqDiff, Nat.reduceAdd, Nat.reduceLT, Nat.reduceLeDiff, Nat.reduceMul, Nat.reduceBEq, reduceIte]
  refine call_frz (r' := .p (.bool r1)) (args := []) (caps := []) (m_law09_awake_ev  r1 hr1 (d + 1) empty) (wkRs_refl []) rfl (by simp -implicitDefEqProofs only [go_sem, Nat.reduceEqDiff, Nat.reduceAdd, Nat.reduceLT, Nat.reduceLeDiff, Nat.reduceMul, Nat.reduceBEq, reduceIte]) (by simp -implicitDefEqProofs only [go_sem, Nat.reduceEqDiff, Nat.reduceAdd, Nat.reduceLT, Nat.reduceLeDiff, Nat.reduceMul, Nat.reduceBEq, reduceIte]) ?_ rfl rfl
  simp -implicitDefEqProofs only [go_sem, Nat.reduceEqDiff, Nat.reduceAdd, Nat.reduceLT, Nat.reduceLeDiff, Nat.reduceMul, Nat.reduceBEq, reduceIte]
  obtain ⟨v2, hz, h⟩ := bs h
  obtain ⟨R3, hR3⟩ : ∃ R : St → Prop, R = fun s => s.G = fillKey (cut d G) (d + 1) 3 [.box [.p (.str a0.f0), .p (.sl (a0.f1.map cTState)), .p (.sl (a0.f2.map cTMove))]] ∧ s.F 1 = .p (.str a1) ∧ s.F 2 = .p (.str a2) ∧ s.F 3 = .bp (d + 1, 3, 0) 0 ∧ s.F 35 = .p (.bool v2) ∧ True := ⟨_, rfl⟩
  refine cutR R3 ?_ ?_
  · replace h := hz
    rcases ib h with ⟨c4, h⟩ | ⟨c4, h⟩
    · cases h
      simp -implicitDefEqProofs only [go_sem, Nat.reduceEqDiff, Nat.reduceAdd, Nat.reduceLT, Nat.reduceLeDiff, Nat.reduceMul, Nat.reduceBEq, reduceIte, c4]
      rw [hR3]
      simp -implicitDefEqProofs only [go_sem, Nat.reduceEqDiff, Nat.reduceAdd, Nat.reduceLT, Nat.reduceLeDiff, Nat.reduceMul, Nat.reduceBEq, reduceIte, c4]
    · obtain ⟨r5, hr5, h⟩ := bs h
      simp -implicitDefEqProofs only [go_sem, Nat.reduceEqDiff, Nat.reduceAdd, Nat.reduceLT, Nat.reduceLeDiff, Nat.reduceMul, Nat.reduceBEq, reduceIte, c4]
      refine call_frz (r' := .p (.bool r5)) (m_ref09_Small_ev a0 r5 hr5 (d + 1) empty) (by simp -implicitDefEqProofs only [go_sem, Nat.reduceEqDiff, Nat.reduceAdd, Nat.reduceLT, Nat.reduceLeDiff, Nat.reduceMul, Nat.reduceBEq, reduceIte, c4]) rfl (by simp -implicitDefEqProofs only [go_sem, Nat.reduceEqDiff, Nat.reduceAdd, Nat.reduceLT, Nat.reduceLeDiff, Nat.reduceMul, Nat.reduceBEq, reduceIte]) (by simp -implicitDefEqProofs only [go_sem, Nat.reduceEqDiff, Nat.reduceAdd, Nat.reduceLT, Nat.reduceLeDiff, Nat.reduceMul, Nat.reduceBEq, reduceIte]) ?_ rfl rfl
      rcases ib h with ⟨c6, h⟩ | ⟨c6, h⟩
      · cases h
        simp -implicitDefEqProofs only [go_sem, Nat.reduceEqDiff, Nat.reduceAdd, Nat.reduceLT, Nat.reduceLeDiff, Nat.reduceMul, Nat.reduceBEq, reduceIte, c4, c6]
        rw [hR3]
        simp -implicitDefEqProofs only [go_sem, Nat.reduceEqDiff, Nat.reduceAdd, Nat.reduceLT, Nat.reduceLeDiff, Nat.reduceMul, Nat.reduceBEq, reduceIte, c4, c6]
      · rcases ib h with ⟨c7, h⟩ | ⟨c7, h⟩
        · cases h
          simp -implicitDefEqProofs only [go_sem, Nat.reduceEqDiff, Nat.reduceAdd, Nat.reduceLT, Nat.reduceLeDiff, Nat.reduceMul, Nat.reduceBEq, reduceIte, c4, c6, c7]
          rw [hR3]
          simp -implicitDefEqProofs only [go_sem, Nat.reduceEqDiff, Nat.reduceAdd, Nat.reduceLT, Nat.reduceLeDiff, Nat.reduceMul, Nat.reduceBEq, reduceIte, c4, c6, c7]
        · cases h
          simp -implicitDefEqProofs only [go_sem, Nat.reduceEqDiff, Nat.reduceAdd, Nat.reduceLT, Nat.reduceLeDiff, Nat.reduceMul, Nat.reduceBEq, reduceIte, c4, c6, c7]
          rw [hR3]
          simp -implicitDefEqProofs only [go_sem, Nat.reduceEqDiff, Nat.reduceAdd, Nat.reduceLT, Nat.reduceLeDiff, Nat.reduceMul, Nat.reduceBEq, reduceIte, c4, c6, c7]
  · replace h := h; clear hz
    rintro s i
    rw [hR3] at i
    obtain ⟨gi8, i8⟩ := i
    clear hR3
    try dsimp only at h
    rcases ib h with ⟨c9, h⟩ | ⟨c9, h⟩
    · obtain ⟨r10, hr10, h⟩ := bs h
      simp -implicitDefEqProofs only [go_sem, Nat.reduceEqDiff, Nat.reduceAdd, Nat.reduceLT, Nat.reduceLeDiff, Nat.reduceMul, Nat.reduceBEq, reduceIte, gi8, i8, c9]
      try refine gCall_eta gi8 ?_
      refine call_frz (r' := .p (.bool r10)) (args := []) (caps := []) (m_law09_awake_ev  r10 hr10 (d + 1) empty) (wkRs_refl []) rfl (by simp -implicitDefEqProofs only [go_sem, Nat.reduceEqDiff, Nat.reduceAdd, Nat.reduceLT, Nat.reduceLeDiff, Nat.reduceMul, Nat.reduceBEq, reduceIte]) (by simp -implicitDefEqProofs only [go_sem, Nat.reduceEqDiff, Nat.reduceAdd, Nat.reduceLT, Nat.reduceLeDiff, Nat.reduceMul, Nat.reduceBEq, reduceIte]) ?_ rfl rfl
      cases h
      subst hQ
      simp -implicitDefEqProofs only [go_sem, Nat.reduceEqDiff, Nat.reduceAdd, Nat.reduceLT, Nat.reduceLeDiff, Nat.reduceMul, Nat.reduceBEq, reduceIte, gi8, i8, c9, Try.results7]
    · obtain ⟨r11, hr11, h⟩ := bs h
      simp -implicitDefEqProofs only [go_sem, Nat.reduceEqDiff, Nat.reduceAdd, Nat.reduceLT, Nat.reduceLeDiff, Nat.reduceMul, Nat.reduceBEq, reduceIte, gi8, i8, c9]
      refine call_frz (r' := .tup [.p (encP cTAuto_Auto r11.1), .p (.int .i64 r11.2)]) (m_auto_New_ev a0 r11 hr11 (d + 1) empty) (by simp -implicitDefEqProofs only [go_sem, Nat.reduceEqDiff, Nat.reduceAdd, Nat.reduceLT, Nat.reduceLeDiff, Nat.reduceMul, Nat.reduceBEq, reduceIte, gi8, i8, c9]) rfl (by simp -implicitDefEqProofs only [go_sem, Nat.reduceEqDiff, Nat.reduceAdd, Nat.reduceLT, Nat.reduceLeDiff, Nat.reduceMul, Nat.reduceBEq, reduceIte]) (by simp -implicitDefEqProofs only [go_sem, Nat.reduceEqDiff, Nat.reduceAdd, Nat.reduceLT, Nat.reduceLeDiff, Nat.reduceMul, Nat.reduceBEq, reduceIte]) ?_ rfl rfl
      obtain ⟨r12, hr12, h⟩ := bs h
      simp -implicitDefEqProofs only [go_sem, Nat.reduceEqDiff, Nat.reduceAdd, Nat.reduceLT, Nat.reduceLeDiff, Nat.reduceMul, Nat.reduceBEq, reduceIte, gi8, i8, c9]
      refine call_frz (r' := .tup [.p (.int .i64 r12.1), .p (.int .i64 r12.2)]) (m_ref09_Wrong_ev a0 r12 hr12 (d + 1) empty) (by simp -implicitDefEqProofs only [go_sem, Nat.reduceEqDiff, Nat.reduceAdd, Nat.reduceLT, Nat.reduceLeDiff, Nat.reduceMul, Nat.reduceBEq, reduceIte, gi8, i8, c9]) rfl (by simp -implicitDefEqProofs only [go_sem, Nat.reduceEqDiff, Nat.reduceAdd, Nat.reduceLT, Nat.reduceLeDiff, Nat.reduceMul, Nat.reduceBEq, reduceIte]) (by simp -implicitDefEqProofs only [go_sem, Nat.reduceEqDiff, Nat.reduceAdd, Nat.reduceLT, Nat.reduceLeDiff, Nat.reduceMul, Nat.reduceBEq, reduceIte]) ?_ rfl rfl
      rcases ib h with ⟨c13, h⟩ | ⟨c13, h⟩
      · cases h
        subst hQ
        simp -implicitDefEqProofs only [go_sem, Nat.reduceEqDiff, Nat.reduceAdd, Nat.reduceLT, Nat.reduceLeDiff, Nat.reduceMul, Nat.reduceBEq, reduceIte, gi8, i8, c9, c13, Try.results7]
      · simp -implicitDefEqProofs only [go_sem, Nat.reduceEqDiff, Nat.reduceAdd, Nat.reduceLT, Nat.reduceLeDiff, Nat.reduceMul, Nat.reduceBEq, reduceIte, gi8, i8, c9, c13]
        obtain ⟨v14, hz, h⟩ := bs h
        obtain ⟨R15, hR15⟩ : ∃ R : St → Prop, R = fun s => s.G = fillKey (cut d G) (d + 1) 3 [.box [.p (.str a0.f0), .p (.sl (a0.f1.map cTState)), .p (.sl (a0.f2.map cTMove))]] ∧ s.F 1 = .p (.str a1) ∧ s.F 2 = .p (.str a2) ∧ s.F 3 = .bp (d + 1, 3, 0) 0 ∧ s.F 7 = .p (encP cTAuto_Auto r11.1) ∧ s.F 67 = .p (.bool v14) ∧ True := ⟨_, rfl⟩
        refine cutR R15 ?_ ?_
        · replace h := hz
          rcases ib h with ⟨c16, h⟩ | ⟨c16, h⟩
          · cases h
            simp -implicitDefEqProofs only [go_sem, Nat.reduceEqDiff, Nat.reduceAdd, Nat.reduceLT, Nat.reduceLeDiff, Nat.reduceMul, Nat.reduceBEq, reduceIte, gi8, i8, c9, c13, c16]
            rw [hR15]
            simp -implicitDefEqProofs only [go_sem, Nat.reduceEqDiff, Nat.reduceAdd, Nat.reduceLT, Nat.reduceLeDiff, Nat.reduceMul, Nat.reduceBEq, reduceIte, gi8, i8, c9, c13, c16]
          · obtain ⟨r17, hr17, h⟩ := bs h
            simp -implicitDefEqProofs only [go_sem, Nat.reduceEqDiff, Nat.reduceAdd, Nat.reduceLT, Nat.reduceLeDiff, Nat.reduceMul, Nat.reduceBEq, reduceIte, gi8, i8, c9, c13, c16]
            refine call_frz (r' := .p (.sl (r17.map cstr))) (m_auto_Auto_Ops_ev r11.1 r17 hr17 (d + 1) empty) (by simp -implicitDefEqProofs only [go_sem, Nat.reduceEqDiff, Nat.reduceAdd, Nat.reduceLT, Nat.reduceLeDiff, Nat.reduceMul, Nat.reduceBEq, reduceIte, gi8, i8, c9, c13, c16]) rfl (by simp -implicitDefEqProofs only [go_sem, Nat.reduceEqDiff, Nat.reduceAdd, Nat.reduceLT, Nat.reduceLeDiff, Nat.reduceMul, Nat.reduceBEq, reduceIte]) (by simp -implicitDefEqProofs only [go_sem, Nat.reduceEqDiff, Nat.reduceAdd, Nat.reduceLT, Nat.reduceLeDiff, Nat.reduceMul, Nat.reduceBEq, reduceIte]) ?_ rfl rfl
            obtain ⟨r18, hr18, h⟩ := bs h
            simp -implicitDefEqProofs only [go_sem, Nat.reduceEqDiff, Nat.reduceAdd, Nat.reduceLT, Nat.reduceLeDiff, Nat.reduceMul, Nat.reduceBEq, reduceIte, gi8, i8, c9, c13, c16]
            refine call_frz (r' := .p (.sl (r18.map cstr))) (m_ref09_Ops_ev a0 r18 hr18 (d + 1) empty) (by simp -implicitDefEqProofs only [go_sem, Nat.reduceEqDiff, Nat.reduceAdd, Nat.reduceLT, Nat.reduceLeDiff, Nat.reduceMul, Nat.reduceBEq, reduceIte, gi8, i8, c9, c13, c16]) rfl (by simp -implicitDefEqProofs only [go_sem, Nat.reduceEqDiff, Nat.reduceAdd, Nat.reduceLT, Nat.reduceLeDiff, Nat.reduceMul, Nat.reduceBEq, reduceIte]) (by simp -implicitDefEqProofs only [go_sem, Nat.reduceEqDiff, Nat.reduceAdd, Nat.reduceLT, Nat.reduceLeDiff, Nat.reduceMul, Nat.reduceBEq, reduceIte]) ?_ rfl rfl
            obtain ⟨r19, hr19, h⟩ := bs h
            simp -implicitDefEqProofs only [go_sem, Nat.reduceEqDiff, Nat.reduceAdd, Nat.reduceLT, Nat.reduceLeDiff, Nat.reduceMul, Nat.reduceBEq, reduceIte, gi8, i8, c9, c13, c16]
            refine call_frz (r' := .p (.bool r19)) (m_ref09_Texts_ev r17 r18 r19 hr19 (d + 1) empty) (by simp -implicitDefEqProofs only [go_sem, Nat.reduceEqDiff, Nat.reduceAdd, Nat.reduceLT, Nat.reduceLeDiff, Nat.reduceMul, Nat.reduceBEq, reduceIte, gi8, i8, c9, c13, c16]) rfl (by simp -implicitDefEqProofs only [go_sem, Nat.reduceEqDiff, Nat.reduceAdd, Nat.reduceLT, Nat.reduceLeDiff, Nat.reduceMul, Nat.reduceBEq, reduceIte]) (by simp -implicitDefEqProofs only [go_sem, Nat.reduceEqDiff, Nat.reduceAdd, Nat.reduceLT, Nat.reduceLeDiff, Nat.reduceMul, Nat.reduceBEq, reduceIte]) ?_ rfl rfl
            rcases ib h with ⟨c20, h⟩ | ⟨c20, h⟩
            · cases h
              simp -implicitDefEqProofs only [go_sem, Nat.reduceEqDiff, Nat.reduceAdd, Nat.reduceLT, Nat.reduceLeDiff, Nat.reduceMul, Nat.reduceBEq, reduceIte, gi8, i8, c9, c13, c16, c20]
              rw [hR15]
              simp -implicitDefEqProofs only [go_sem, Nat.reduceEqDiff, Nat.reduceAdd, Nat.reduceLT, Nat.reduceLeDiff, Nat.reduceMul, Nat.reduceBEq, reduceIte, gi8, i8, c9, c13, c16, c20]
            · obtain ⟨r21, hr21, h⟩ := bs h
              simp -implicitDefEqProofs only [go_sem, Nat.reduceEqDiff, Nat.reduceAdd, Nat.reduceLT, Nat.reduceLeDiff, Nat.reduceMul, Nat.reduceBEq, reduceIte, gi8, i8, c9, c13, c16, c20]
              refine call_frz (r' := .p (.int .u32 r21)) (m_auto_Auto_Finals_ev r11.1 r21 hr21 (d + 1) empty) (by simp -implicitDefEqProofs only [go_sem, Nat.reduceEqDiff, Nat.reduceAdd, Nat.reduceLT, Nat.reduceLeDiff, Nat.reduceMul, Nat.reduceBEq, reduceIte, gi8, i8, c9, c13, c16, c20]) rfl (by simp -implicitDefEqProofs only [go_sem, Nat.reduceEqDiff, Nat.reduceAdd, Nat.reduceLT, Nat.reduceLeDiff, Nat.reduceMul, Nat.reduceBEq, reduceIte]) (by simp -implicitDefEqProofs only [go_sem, Nat.reduceEqDiff, Nat.reduceAdd, Nat.reduceLT, Nat.reduceLeDiff, Nat.reduceMul, Nat.reduceBEq, reduceIte]) ?_ rfl rfl
              obtain ⟨r22, hr22, h⟩ := bs h
              simp -implicitDefEqProofs only [go_sem, Nat.reduceEqDiff, Nat.reduceAdd, Nat.reduceLT, Nat.reduceLeDiff, Nat.reduceMul, Nat.reduceBEq, reduceIte, gi8, i8, c9, c13, c16, c20]
              refine call_frz (r' := .p (.int .u32 r22)) (m_ref09_Set_ev a0 0 (⟨#[]⟩ : ByteArray) r22 hr22 (d + 1) empty) (by simp -implicitDefEqProofs only [go_sem, Nat.reduceEqDiff, Nat.reduceAdd, Nat.reduceLT, Nat.reduceLeDiff, Nat.reduceMul, Nat.reduceBEq, reduceIte, gi8, i8, c9, c13, c16, c20]) rfl (by simp -implicitDefEqProofs only [go_sem, Nat.reduceEqDiff, Nat.reduceAdd, Nat.reduceLT, Nat.reduceLeDiff, Nat.reduceMul, Nat.reduceBEq, reduceIte]) (by simp -implicitDefEqProofs only [go_sem, Nat.reduceEqDiff, Nat.reduceAdd, Nat.reduceLT, Nat.reduceLeDiff, Nat.reduceMul, Nat.reduceBEq, reduceIte]) ?_ rfl rfl
              cases h
              simp -implicitDefEqProofs only [go_sem, Nat.reduceEqDiff, Nat.reduceAdd, Nat.reduceLT, Nat.reduceLeDiff, Nat.reduceMul, Nat.reduceBEq, reduceIte, gi8, i8, c9, c13, c16, c20]
              rw [hR15]
              simp -implicitDefEqProofs only [go_sem, Nat.reduceEqDiff, Nat.reduceAdd, Nat.reduceLT, Nat.reduceLeDiff, Nat.reduceMul, Nat.reduceBEq, reduceIte, gi8, i8, c9, c13, c16, c20]
        · replace h := h; clear hz
          rintro s i
          rw [hR15] at i
          obtain ⟨gi23, i23⟩ := i
          clear hR15
          try dsimp only at h
          rcases ib h with ⟨c24, h⟩ | ⟨c24, h⟩
          · cases h
            subst hQ
            simp -implicitDefEqProofs only [go_sem, Nat.reduceEqDiff, Nat.reduceAdd, Nat.reduceLT, Nat.reduceLeDiff, Nat.reduceMul, Nat.reduceBEq, reduceIte, gi8, i8, c9, c13, gi23, i23, c24, Try.results7]
          · simp -implicitDefEqProofs only [go_sem, Nat.reduceEqDiff, Nat.reduceAdd, Nat.reduceLT, Nat.reduceLeDiff, Nat.reduceMul, Nat.reduceBEq, reduceIte, gi8, i8, c9, c13, gi23, i23, c24]
            obtain ⟨z27, hL27, h⟩ := bs h
            obtain ⟨I27, hI27⟩ : ∃ I : Int → St → Prop, I = fun v28 s => s.G = fillKey (cut d G) (d + 1) 3 [.box [.p (.str a0.f0), .p (.sl (a0.f1.map cTState)), .p (.sl (a0.f2.map cTMove))]] ∧ s.F 1 = .p (.str a1) ∧ s.F 2 = .p (.str a2) ∧ s.F 3 = .bp (d + 1, 3, 0) 0 ∧ s.F 7 = .p (encP cTAuto_Auto r11.1) ∧ s.F 11 = .p (.int .i64 v28) ∧ True := ⟨_, rfl⟩
            obtain ⟨R27, hR27⟩ : ∃ R : ((Unit) ⊕ (Bool)) → GE → St → Prop, R = fun x e s => match x with | .inl _ => e = .exit 0 ∧ s.G = fillKey (cut d G) (d + 1) 3 [.box [.p (.str a0.f0), .p (.sl (a0.f1.map cTState)), .p (.sl (a0.f2.map cTMove))]] ∧ s.F 2 = .p (.str a2) ∧ s.F 3 = .bp (d + 1, 3, 0) 0 ∧ s.F 7 = .p (encP cTAuto_Auto r11.1) ∧ True | .inr r => e = .ret ∧ (r = r0 → Q .ret s) := ⟨_, rfl⟩
            refine lp (ts := []) rfl hL27 I27 R27 ?_ ?_ ?_
            · rw [hI27]
              simp -implicitDefEqProofs only [go_sem, Nat.reduceEqDiff, Nat.reduceAdd, Nat.reduceLT, Nat.reduceLeDiff, Nat.reduceMul, Nat.reduceBEq, reduceIte, gi8, i8, c9, c13, gi23, i23, c24]
            · clear h hL27
              rintro v28 y s h i
              rw [hI27] at i
              obtain ⟨gi27, i27⟩ := i
              replace h : m_law09_AutoTells_L0 a0 a1 r11 (v28) = some y := h
              unfold m_law09_AutoTells_L0 at h
              rcases ib h with ⟨c29, h⟩ | ⟨c29, h⟩
              · simp -implicitDefEqProofs only [go_sem, Nat.reduceEqDiff, Nat.reduceAdd, Nat.reduceLT, Nat.reduceLeDiff, Nat.reduceMul, Nat.reduceBEq, reduceIte, gi8, i8, c9, c13, gi23, i23, c24, gi27, i27, c29]
                obtain ⟨v30, hz, h⟩ := bs h
                obtain ⟨R31, hR31⟩ : ∃ R : St → Prop, R = fun s => s.G = fillKey (cut d G) (d + 1) 3 [.box [.p (.str a0.f0), .p (.sl (a0.f1.map cTState)), .p (.sl (a0.f2.map cTMove))]] ∧ s.F 1 = .p (.str a1) ∧ s.F 2 = .p (.str a2) ∧ s.F 3 = .bp (d + 1, 3, 0) 0 ∧ s.F 7 = .p (encP cTAuto_Auto r11.1) ∧ s.F 11 = .p (.int .i64 v28) ∧ s.F 12 = .p (.str v30) ∧ True := ⟨_, rfl⟩
                refine cutG R31 ?_ ?_
                · replace h := hz
                  rcases ib h with ⟨c32, h⟩ | ⟨c32, h⟩
                  · obtain ⟨v33, hv33, h⟩ := bs h
                    replace hv33 := gis hv33
                    cases h
                    simp -implicitDefEqProofs only [go_sem, Nat.reduceEqDiff, Nat.reduceAdd, Nat.reduceLT, Nat.reduceLeDiff, Nat.reduceMul, Nat.reduceBEq, reduceIte, gi8, i8, c9, c13, gi23, i23, c24, gi27, i27, c29, c32, hv33]
                    rw [hR31]
                    simp -implicitDefEqProofs only [go_sem, Nat.reduceEqDiff, Nat.reduceAdd, Nat.reduceLT, Nat.reduceLeDiff, Nat.reduceMul, Nat.reduceBEq, reduceIte, gi8, i8, c9, c13, gi23, i23, c24, gi27, i27, c29, c32, hv33]
                  · cases h
                    simp -implicitDefEqProofs only [go_sem, Nat.reduceEqDiff, Nat.reduceAdd, Nat.reduceLT, Nat.reduceLeDiff, Nat.reduceMul, Nat.reduceBEq, reduceIte, gi8, i8, c9, c13, gi23, i23, c24, gi27, i27, c29, c32]
                    rw [hR31]
                    simp -implicitDefEqProofs only [go_sem, Nat.reduceEqDiff, Nat.reduceAdd, Nat.reduceLT, Nat.reduceLeDiff, Nat.reduceMul, Nat.reduceBEq, reduceIte, gi8, i8, c9, c13, gi23, i23, c24, gi27, i27, c29, c32]
                · replace h := h; clear hz
                  rintro s i
                  rw [hR31] at i
                  obtain ⟨gi34, i34⟩ := i
                  clear hR31
                  try dsimp only at h
                  obtain ⟨r35, hr35, h⟩ := bs h
                  simp -implicitDefEqProofs only [go_sem, Nat.reduceEqDiff, Nat.reduceAdd, Nat.reduceLT, Nat.reduceLeDiff, Nat.reduceMul, Nat.reduceBEq, reduceIte, gi8, i8, c9, c13, gi23, i23, c24, gi27, i27, c29, gi34, i34]
                  refine call_frz (r' := .p (.sl (r35.map cstr))) (m_auto_Auto_Outcomes_ev r11.1 v30 r35 hr35 (d + 1) empty) (by simp -implicitDefEqProofs only [go_sem, Nat.reduceEqDiff, Nat.reduceAdd, Nat.reduceLT, Nat.reduceLeDiff, Nat.reduceMul, Nat.reduceBEq, reduceIte, gi8, i8, c9, c13, gi23, i23, c24, gi27, i27, c29, gi34, i34]) rfl (by simp -implicitDefEqProofs only [go_sem, Nat.reduceEqDiff, Nat.reduceAdd, Nat.reduceLT, Nat.reduceLeDiff, Nat.reduceMul, Nat.reduceBEq, reduceIte]) (by simp -implicitDefEqProofs only [go_sem, Nat.reduceEqDiff, Nat.reduceAdd, Nat.reduceLT, Nat.reduceLeDiff, Nat.reduceMul, Nat.reduceBEq, reduceIte]) ?_ rfl rfl
                  obtain ⟨r36, hr36, h⟩ := bs h
                  simp -implicitDefEqProofs only [go_sem, Nat.reduceEqDiff, Nat.reduceAdd, Nat.reduceLT, Nat.reduceLeDiff, Nat.reduceMul, Nat.reduceBEq, reduceIte, gi8, i8, c9, c13, gi23, i23, c24, gi27, i27, c29, gi34, i34]
                  refine call_frz (r' := .p (.sl (r36.map cstr))) (m_ref09_Outcomes_ev a0 v30 r36 hr36 (d + 1) empty) (by simp -implicitDefEqProofs only [go_sem, Nat.reduceEqDiff, Nat.reduceAdd, Nat.reduceLT, Nat.reduceLeDiff, Nat.reduceMul, Nat.reduceBEq, reduceIte, gi8, i8, c9, c13, gi23, i23, c24, gi27, i27, c29, gi34, i34]) rfl (by simp -implicitDefEqProofs only [go_sem, Nat.reduceEqDiff, Nat.reduceAdd, Nat.reduceLT, Nat.reduceLeDiff, Nat.reduceMul, Nat.reduceBEq, reduceIte]) (by simp -implicitDefEqProofs only [go_sem, Nat.reduceEqDiff, Nat.reduceAdd, Nat.reduceLT, Nat.reduceLeDiff, Nat.reduceMul, Nat.reduceBEq, reduceIte]) ?_ rfl rfl
                  obtain ⟨r37, hr37, h⟩ := bs h
                  simp -implicitDefEqProofs only [go_sem, Nat.reduceEqDiff, Nat.reduceAdd, Nat.reduceLT, Nat.reduceLeDiff, Nat.reduceMul, Nat.reduceBEq, reduceIte, gi8, i8, c9, c13, gi23, i23, c24, gi27, i27, c29, gi34, i34]
                  refine call_frz (r' := .p (.bool r37)) (m_ref09_Texts_ev r35 r36 r37 hr37 (d + 1) empty) (by simp -implicitDefEqProofs only [go_sem, Nat.reduceEqDiff, Nat.reduceAdd, Nat.reduceLT, Nat.reduceLeDiff, Nat.reduceMul, Nat.reduceBEq, reduceIte, gi8, i8, c9, c13, gi23, i23, c24, gi27, i27, c29, gi34, i34]) rfl (by simp -implicitDefEqProofs only [go_sem, Nat.reduceEqDiff, Nat.reduceAdd, Nat.reduceLT, Nat.reduceLeDiff, Nat.reduceMul, Nat.reduceBEq, reduceIte]) (by simp -implicitDefEqProofs only [go_sem, Nat.reduceEqDiff, Nat.reduceAdd, Nat.reduceLT, Nat.reduceLeDiff, Nat.reduceMul, Nat.reduceBEq, reduceIte]) ?_ rfl rfl
                  simp -implicitDefEqProofs only [go_sem, Nat.reduceEqDiff, Nat.reduceAdd, Nat.reduceLT, Nat.reduceLeDiff, Nat.reduceMul, Nat.reduceBEq, reduceIte, gi8, i8, c9, c13, gi23, i23, c24, gi27, i27, c29, gi34, i34]
                  obtain ⟨v38, hz, h⟩ := bs h
                  obtain ⟨R39, hR39⟩ : ∃ R : St → Prop, R = fun s => s.G = fillKey (cut d G) (d + 1) 3 [.box [.p (.str a0.f0), .p (.sl (a0.f1.map cTState)), .p (.sl (a0.f2.map cTMove))]] ∧ s.F 1 = .p (.str a1) ∧ s.F 2 = .p (.str a2) ∧ s.F 3 = .bp (d + 1, 3, 0) 0 ∧ s.F 7 = .p (encP cTAuto_Auto r11.1) ∧ s.F 11 = .p (.int .i64 v28) ∧ s.F 12 = .p (.str v30) ∧ s.F 112 = .p (.bool v38) ∧ True := ⟨_, rfl⟩
                  refine cutR R39 ?_ ?_
                  · replace h := hz
                    rcases ib h with ⟨c40, h⟩ | ⟨c40, h⟩
                    · cases h
                      simp -implicitDefEqProofs only [go_sem, Nat.reduceEqDiff, Nat.reduceAdd, Nat.reduceLT, Nat.reduceLeDiff, Nat.reduceMul, Nat.reduceBEq, reduceIte, gi8, i8, c9, c13, gi23, i23, c24, gi27, i27, c29, gi34, i34, c40]
                      rw [hR39]
                      simp -implicitDefEqProofs only [go_sem, Nat.reduceEqDiff, Nat.reduceAdd, Nat.reduceLT, Nat.reduceLeDiff, Nat.reduceMul, Nat.reduceBEq, reduceIte, gi8, i8, c9, c13, gi23, i23, c24, gi27, i27, c29, gi34, i34, c40]
                    · obtain ⟨r41, hr41, h⟩ := bs h
                      simp -implicitDefEqProofs only [go_sem, Nat.reduceEqDiff, Nat.reduceAdd, Nat.reduceLT, Nat.reduceLeDiff, Nat.reduceMul, Nat.reduceBEq, reduceIte, gi8, i8, c9, c13, gi23, i23, c24, gi27, i27, c29, gi34, i34, c40]
                      refine call_frz (r' := .p (.int .u32 r41)) (m_auto_Auto_Enabled_ev r11.1 v30 r41 hr41 (d + 1) empty) (by simp -implicitDefEqProofs only [go_sem, Nat.reduceEqDiff, Nat.reduceAdd, Nat.reduceLT, Nat.reduceLeDiff, Nat.reduceMul, Nat.reduceBEq, reduceIte, gi8, i8, c9, c13, gi23, i23, c24, gi27, i27, c29, gi34, i34, c40]) rfl (by simp -implicitDefEqProofs only [go_sem, Nat.reduceEqDiff, Nat.reduceAdd, Nat.reduceLT, Nat.reduceLeDiff, Nat.reduceMul, Nat.reduceBEq, reduceIte]) (by simp -implicitDefEqProofs only [go_sem, Nat.reduceEqDiff, Nat.reduceAdd, Nat.reduceLT, Nat.reduceLeDiff, Nat.reduceMul, Nat.reduceBEq, reduceIte]) ?_ rfl rfl
                      obtain ⟨r42, hr42, h⟩ := bs h
                      simp -implicitDefEqProofs only [go_sem, Nat.reduceEqDiff, Nat.reduceAdd, Nat.reduceLT, Nat.reduceLeDiff, Nat.reduceMul, Nat.reduceBEq, reduceIte, gi8, i8, c9, c13, gi23, i23, c24, gi27, i27, c29, gi34, i34, c40]
                      refine call_frz (r' := .p (.int .u32 r42)) (m_ref09_Set_ev a0 1 v30 r42 hr42 (d + 1) empty) (by simp -implicitDefEqProofs only [go_sem, Nat.reduceEqDiff, Nat.reduceAdd, Nat.reduceLT, Nat.reduceLeDiff, Nat.reduceMul, Nat.reduceBEq, reduceIte, gi8, i8, c9, c13, gi23, i23, c24, gi27, i27, c29, gi34, i34, c40]) rfl (by simp -implicitDefEqProofs only [go_sem, Nat.reduceEqDiff, Nat.reduceAdd, Nat.reduceLT, Nat.reduceLeDiff, Nat.reduceMul, Nat.reduceBEq, reduceIte]) (by simp -implicitDefEqProofs only [go_sem, Nat.reduceEqDiff, Nat.reduceAdd, Nat.reduceLT, Nat.reduceLeDiff, Nat.reduceMul, Nat.reduceBEq, reduceIte]) ?_ rfl rfl
                      rcases ib h with ⟨c43, h⟩ | ⟨c43, h⟩
                      · cases h
                        simp -implicitDefEqProofs only [go_sem, Nat.reduceEqDiff, Nat.reduceAdd, Nat.reduceLT, Nat.reduceLeDiff, Nat.reduceMul, Nat.reduceBEq, reduceIte, gi8, i8, c9, c13, gi23, i23, c24, gi27, i27, c29, gi34, i34, c40, c43]
                        rw [hR39]
                        simp -implicitDefEqProofs only [go_sem, Nat.reduceEqDiff, Nat.reduceAdd, Nat.reduceLT, Nat.reduceLeDiff, Nat.reduceMul, Nat.reduceBEq, reduceIte, gi8, i8, c9, c13, gi23, i23, c24, gi27, i27, c29, gi34, i34, c40, c43]
                      · obtain ⟨r44, hr44, h⟩ := bs h
                        simp -implicitDefEqProofs only [go_sem, Nat.reduceEqDiff, Nat.reduceAdd, Nat.reduceLT, Nat.reduceLeDiff, Nat.reduceMul, Nat.reduceBEq, reduceIte, gi8, i8, c9, c13, gi23, i23, c24, gi27, i27, c29, gi34, i34, c40, c43]
                        refine call_frz (r' := .p (.int .u32 r44)) (m_auto_Auto_Keeps_ev r11.1 v30 r44 hr44 (d + 1) empty) (by simp -implicitDefEqProofs only [go_sem, Nat.reduceEqDiff, Nat.reduceAdd, Nat.reduceLT, Nat.reduceLeDiff, Nat.reduceMul, Nat.reduceBEq, reduceIte, gi8, i8, c9, c13, gi23, i23, c24, gi27, i27, c29, gi34, i34, c40, c43]) rfl (by simp -implicitDefEqProofs only [go_sem, Nat.reduceEqDiff, Nat.reduceAdd, Nat.reduceLT, Nat.reduceLeDiff, Nat.reduceMul, Nat.reduceBEq, reduceIte]) (by simp -implicitDefEqProofs only [go_sem, Nat.reduceEqDiff, Nat.reduceAdd, Nat.reduceLT, Nat.reduceLeDiff, Nat.reduceMul, Nat.reduceBEq, reduceIte]) ?_ rfl rfl
                        obtain ⟨r45, hr45, h⟩ := bs h
                        simp -implicitDefEqProofs only [go_sem, Nat.reduceEqDiff, Nat.reduceAdd, Nat.reduceLT, Nat.reduceLeDiff, Nat.reduceMul, Nat.reduceBEq, reduceIte, gi8, i8, c9, c13, gi23, i23, c24, gi27, i27, c29, gi34, i34, c40, c43]
                        refine call_frz (r' := .p (.int .u32 r45)) (m_ref09_Set_ev a0 2 v30 r45 hr45 (d + 1) empty) (by simp -implicitDefEqProofs only [go_sem, Nat.reduceEqDiff, Nat.reduceAdd, Nat.reduceLT, Nat.reduceLeDiff, Nat.reduceMul, Nat.reduceBEq, reduceIte, gi8, i8, c9, c13, gi23, i23, c24, gi27, i27, c29, gi34, i34, c40, c43]) rfl (by simp -implicitDefEqProofs only [go_sem, Nat.reduceEqDiff, Nat.reduceAdd, Nat.reduceLT, Nat.reduceLeDiff, Nat.reduceMul, Nat.reduceBEq, reduceIte]) (by simp -implicitDefEqProofs only [go_sem, Nat.reduceEqDiff, Nat.reduceAdd, Nat.reduceLT, Nat.reduceLeDiff, Nat.reduceMul, Nat.reduceBEq, reduceIte]) ?_ rfl rfl
                        cases h
                        simp -implicitDefEqProofs only [go_sem, Nat.reduceEqDiff, Nat.reduceAdd, Nat.reduceLT, Nat.reduceLeDiff, Nat.reduceMul, Nat.reduceBEq, reduceIte, gi8, i8, c9, c13, gi23, i23, c24, gi27, i27, c29, gi34, i34, c40, c43]
                        rw [hR39]
                        simp -implicitDefEqProofs only [go_sem, Nat.reduceEqDiff, Nat.reduceAdd, Nat.reduceLT, Nat.reduceLeDiff, Nat.reduceMul, Nat.reduceBEq, reduceIte, gi8, i8, c9, c13, gi23, i23, c24, gi27, i27, c29, gi34, i34, c40, c43]
                  · replace h := h; clear hz
                    rintro s i
                    rw [hR39] at i
                    obtain ⟨gi46, i46⟩ := i
                    clear hR39
                    try dsimp only at h
                    rcases ib h with ⟨c47, h⟩ | ⟨c47, h⟩
                    · cases h
                      simp -implicitDefEqProofs only [go_sem, Nat.reduceEqDiff, Nat.reduceAdd, Nat.reduceLT, Nat.reduceLeDiff, Nat.reduceMul, Nat.reduceBEq, reduceIte, gi8, i8, c9, c13, gi23, i23, c24, gi27, i27, c29, gi34, i34, gi46, i46, c47]
                      rw [hR27]
                      refine ⟨rfl, ?_⟩
                      intro hr
                      subst hr
                      subst hQ
                      simp -implicitDefEqProofs only [go_sem, Nat.reduceEqDiff, Nat.reduceAdd, Nat.reduceLT, Nat.reduceLeDiff, Nat.reduceMul, Nat.reduceBEq, reduceIte, gi8, i8, c9, c13, gi23, i23, c24, gi27, i27, c29, gi34, i34, gi46, i46, c47, Try.results7]
                    · simp -implicitDefEqProofs only [go_sem, Nat.reduceEqDiff, Nat.reduceAdd, Nat.reduceLT, Nat.reduceLeDiff, Nat.reduceMul, Nat.reduceBEq, reduceIte, gi8, i8, c9, c13, gi23, i23, c24, gi27, i27, c29, gi34, i34, gi46, i46, c47]
                      obtain ⟨z50, hL50, h⟩ := bs h
                      obtain ⟨I50, hI50⟩ : ∃ I : Int → St → Prop, I = fun v51 s => s.G = fillKey (cut d G) (d + 1) 3 [.box [.p (.str a0.f0), .p (.sl (a0.f1.map cTState)), .p (.sl (a0.f2.map cTMove))]] ∧ s.F 1 = .p (.str a1) ∧ s.F 2 = .p (.str a2) ∧ s.F 3 = .bp (d + 1, 3, 0) 0 ∧ s.F 7 = .p (encP cTAuto_Auto r11.1) ∧ s.F 11 = .p (.int .i64 v28) ∧ s.F 12 = .p (.str v30) ∧ s.F 13 = .p (.int .i64 v51) ∧ True := ⟨_, rfl⟩
                      obtain ⟨R50, hR50⟩ : ∃ R : ((Unit) ⊕ (Bool)) → GE → St → Prop, R = fun x e s => match x with | .inl _ => e = .exit 2 ∧ s.G = fillKey (cut d G) (d + 1) 3 [.box [.p (.str a0.f0), .p (.sl (a0.f1.map cTState)), .p (.sl (a0.f2.map cTMove))]] ∧ s.F 1 = .p (.str a1) ∧ s.F 2 = .p (.str a2) ∧ s.F 3 = .bp (d + 1, 3, 0) 0 ∧ s.F 7 = .p (encP cTAuto_Auto r11.1) ∧ s.F 11 = .p (.int .i64 v28) ∧ True | .inr r => e = .ret ∧ (r = r0 → Q .ret s) := ⟨_, rfl⟩
                      refine lp (ts := []) rfl hL50 I50 R50 ?_ ?_ ?_
                      · rw [hI50]
                        simp -implicitDefEqProofs only [go_sem, Nat.reduceEqDiff, Nat.reduceAdd, Nat.reduceLT, Nat.reduceLeDiff, Nat.reduceMul, Nat.reduceBEq, reduceIte, gi8, i8, c9, c13, gi23, i23, c24, gi27, i27, c29, gi34, i34, gi46, i46, c47]
                      · clear h hL50
                        rintro v51 y s h i
                        rw [hI50] at i
                        obtain ⟨gi50, i50⟩ := i
                        replace h : m_law09_AutoTells_L1 a0 r11 v30 (v51) = some y := h
                        unfold m_law09_AutoTells_L1 at h
                        rcases ib h with ⟨c52, h⟩ | ⟨c52, h⟩
                        · obtain ⟨r53, hr53, h⟩ := bs h
                          simp -implicitDefEqProofs only [go_sem, Nat.reduceEqDiff, Nat.reduceAdd, Nat.reduceLT, Nat.reduceLeDiff, Nat.reduceMul, Nat.reduceBEq, reduceIte, gi8, i8, c9, c13, gi23, i23, c24, gi27, i27, c29, gi34, i34, gi46, i46, c47, gi50, i50, c52]
                          refine call_frz (r' := .p (.sl (r53.map cTOut))) (m_auto_Auto_Outs_ev r11.1 v51 v30 r53 hr53 (d + 1) empty) (by simp -implicitDefEqProofs only [go_sem, Nat.reduceEqDiff, Nat.reduceAdd, Nat.reduceLT, Nat.reduceLeDiff, Nat.reduceMul, Nat.reduceBEq, reduceIte, gi8, i8, c9, c13, gi23, i23, c24, gi27, i27, c29, gi34, i34, gi46, i46, c47, gi50, i50, c52]) rfl (by simp -implicitDefEqProofs only [go_sem, Nat.reduceEqDiff, Nat.reduceAdd, Nat.reduceLT, Nat.reduceLeDiff, Nat.reduceMul, Nat.reduceBEq, reduceIte]) (by simp -implicitDefEqProofs only [go_sem, Nat.reduceEqDiff, Nat.reduceAdd, Nat.reduceLT, Nat.reduceLeDiff, Nat.reduceMul, Nat.reduceBEq, reduceIte]) ?_ rfl rfl
                          obtain ⟨r54, hr54, h⟩ := bs h
                          simp -implicitDefEqProofs only [go_sem, Nat.reduceEqDiff, Nat.reduceAdd, Nat.reduceLT, Nat.reduceLeDiff, Nat.reduceMul, Nat.reduceBEq, reduceIte, gi8, i8, c9, c13, gi23, i23, c24, gi27, i27, c29, gi34, i34, gi46, i46, c47, gi50, i50, c52]
                          refine call_frz (r' := .p (.sl (r54.map cTOut))) (m_ref09_Outs_ev a0 v51 v30 r54 hr54 (d + 1) empty) (by simp -implicitDefEqProofs only [go_sem, Nat.reduceEqDiff, Nat.reduceAdd, Nat.reduceLT, Nat.reduceLeDiff, Nat.reduceMul, Nat.reduceBEq, reduceIte, gi8, i8, c9, c13, gi23, i23, c24, gi27, i27, c29, gi34, i34, gi46, i46, c47, gi50, i50, c52]) rfl (by simp -implicitDefEqProofs only [go_sem, Nat.reduceEqDiff, Nat.reduceAdd, Nat.reduceLT, Nat.reduceLeDiff, Nat.reduceMul, Nat.reduceBEq, reduceIte]) (by simp -implicitDefEqProofs only [go_sem, Nat.reduceEqDiff, Nat.reduceAdd, Nat.reduceLT, Nat.reduceLeDiff, Nat.reduceMul, Nat.reduceBEq, reduceIte]) ?_ rfl rfl
                          obtain ⟨r55, hr55, h⟩ := bs h
                          simp -implicitDefEqProofs only [go_sem, Nat.reduceEqDiff, Nat.reduceAdd, Nat.reduceLT, Nat.reduceLeDiff, Nat.reduceMul, Nat.reduceBEq, reduceIte, gi8, i8, c9, c13, gi23, i23, c24, gi27, i27, c29, gi34, i34, gi46, i46, c47, gi50, i50, c52]
                          refine call_frz (r' := .p (.bool r55)) (m_ref09_Same_ev r53 r54 r55 hr55 (d + 1) empty) (by simp -implicitDefEqProofs only [go_sem, Nat.reduceEqDiff, Nat.reduceAdd, Nat.reduceLT, Nat.reduceLeDiff, Nat.reduceMul, Nat.reduceBEq, reduceIte, gi8, i8, c9, c13, gi23, i23, c24, gi27, i27, c29, gi34, i34, gi46, i46, c47, gi50, i50, c52]) rfl (by simp -implicitDefEqProofs only [go_sem, Nat.reduceEqDiff, Nat.reduceAdd, Nat.reduceLT, Nat.reduceLeDiff, Nat.reduceMul, Nat.reduceBEq, reduceIte]) (by simp -implicitDefEqProofs only [go_sem, Nat.reduceEqDiff, Nat.reduceAdd, Nat.reduceLT, Nat.reduceLeDiff, Nat.reduceMul, Nat.reduceBEq, reduceIte]) ?_ rfl rfl
                          rcases ib h with ⟨c56, h⟩ | ⟨c56, h⟩
                          · cases h
                            simp -implicitDefEqProofs only [go_sem, Nat.reduceEqDiff, Nat.reduceAdd, Nat.reduceLT, Nat.reduceLeDiff, Nat.reduceMul, Nat.reduceBEq, reduceIte, gi8, i8, c9, c13, gi23, i23, c24, gi27, i27, c29, gi34, i34, gi46, i46, c47, gi50, i50, c52, c56]
                            rw [hR50]
                            refine ⟨rfl, ?_⟩
                            intro hr
                            subst hr
                            subst hQ
                            simp -implicitDefEqProofs only [go_sem, Nat.reduceEqDiff, Nat.reduceAdd, Nat.reduceLT, Nat.reduceLeDiff, Nat.reduceMul, Nat.reduceBEq, reduceIte, gi8, i8, c9, c13, gi23, i23, c24, gi27, i27, c29, gi34, i34, gi46, i46, c47, gi50, i50, c52, c56, Try.results7]
                          · cases h
                            simp -implicitDefEqProofs only [go_sem, Nat.reduceEqDiff, Nat.reduceAdd, Nat.reduceLT, Nat.reduceLeDiff, Nat.reduceMul, Nat.reduceBEq, reduceIte, gi8, i8, c9, c13, gi23, i23, c24, gi27, i27, c29, gi34, i34, gi46, i46, c47, gi50, i50, c52, c56]
                            rw [hI50]
                            simp -implicitDefEqProofs only [go_sem, Nat.reduceEqDiff, Nat.reduceAdd, Nat.reduceLT, Nat.reduceLeDiff, Nat.reduceMul, Nat.reduceBEq, reduceIte, gi8, i8, c9, c13, gi23, i23, c24, gi27, i27, c29, gi34, i34, gi46, i46, c47, gi50, i50, c52, c56]
                        · cases h
                          simp -implicitDefEqProofs only [go_sem, Nat.reduceEqDiff, Nat.reduceAdd, Nat.reduceLT, Nat.reduceLeDiff, Nat.reduceMul, Nat.reduceBEq, reduceIte, gi8, i8, c9, c13, gi23, i23, c24, gi27, i27, c29, gi34, i34, gi46, i46, c47, gi50, i50, c52]
                          rw [hR50]
                          refine ⟨rfl, ?_⟩
                          simp -implicitDefEqProofs only [go_sem, Nat.reduceEqDiff, Nat.reduceAdd, Nat.reduceLT, Nat.reduceLeDiff, Nat.reduceMul, Nat.reduceBEq, reduceIte, gi8, i8, c9, c13, gi23, i23, c24, gi27, i27, c29, gi34, i34, gi46, i46, c47, gi50, i50, c52]
                      · clear hL50 hI50
                        intro e s hr50
                        rw [hR50] at hr50
                        clear hR50
                        rcases z50 with _ | r
                        · try dsimp only at h hr50
                          obtain ⟨rfl, gi57, i57⟩ := hr50
                          cases h
                          simp -implicitDefEqProofs only [go_sem, Nat.reduceEqDiff, Nat.reduceAdd, Nat.reduceLT, Nat.reduceLeDiff, Nat.reduceMul, Nat.reduceBEq, reduceIte, gi8, i8, c9, c13, gi23, i23, c24, gi27, i27, c29, gi34, i34, gi46, i46, c47, gi57, i57]
                          rw [hI27]
                          simp -implicitDefEqProofs only [go_sem, Nat.reduceEqDiff, Nat.reduceAdd, Nat.reduceLT, Nat.reduceLeDiff, Nat.reduceMul, Nat.reduceBEq, reduceIte, gi8, i8, c9, c13, gi23, i23, c24, gi27, i27, c29, gi34, i34, gi46, i46, c47, gi57, i57]
                        · try dsimp only at h hr50
                          obtain ⟨rfl, hr50⟩ := hr50
                          cases h
                          try simp -implicitDefEqProofs only [go_sem, Nat.reduceEqDiff, Nat.reduceAdd, Nat.reduceLT, Nat.reduceLeDiff, Nat.reduceMul, Nat.reduceBEq, reduceIte]
                          rw [hR27]
                          exact ⟨rfl, hr50⟩
              · cases h
                simp -implicitDefEqProofs only [go_sem, Nat.reduceEqDiff, Nat.reduceAdd, Nat.reduceLT, Nat.reduceLeDiff, Nat.reduceMul, Nat.reduceBEq, reduceIte, gi8, i8, c9, c13, gi23, i23, c24, gi27, i27, c29]
                rw [hR27]
                refine ⟨rfl, ?_⟩
                simp -implicitDefEqProofs only [go_sem, Nat.reduceEqDiff, Nat.reduceAdd, Nat.reduceLT, Nat.reduceLeDiff, Nat.reduceMul, Nat.reduceBEq, reduceIte, gi8, i8, c9, c13, gi23, i23, c24, gi27, i27, c29]
            · clear hL27 hI27
              intro e s hr27
              rw [hR27] at hr27
              clear hR27
              rcases z27 with _ | r
              · try dsimp only at h hr27
                obtain ⟨rfl, gi58, i58⟩ := hr27
                simp -implicitDefEqProofs only [go_sem, Nat.reduceEqDiff, Nat.reduceAdd, Nat.reduceLT, Nat.reduceLeDiff, Nat.reduceMul, Nat.reduceBEq, reduceIte, gi8, i8, c9, c13, gi23, i23, c24, gi58, i58]
                obtain ⟨z63, hL63, h⟩ := bs h
                obtain ⟨I63, hI63⟩ : ∃ I : (ByteArray × Int) → St → Prop, I = fun a s => match a with | (v64, v65) => s.G = fillKey (cut d G) (d + 1) 3 [.box [.p (.str a0.f0), .p (.sl (a0.f1.map cTState)), .p (.sl (a0.f2.map cTMove))]] ∧ s.F 2 = .p (.str v64) ∧ s.F 3 = .bp (d + 1, 3, 0) 0 ∧ s.F 7 = .p (encP cTAuto_Auto r11.1) ∧ s.F 14 = .p (.int .i64 v65) ∧ True := ⟨_, rfl⟩
                obtain ⟨R63, hR63⟩ : ∃ R : ((ByteArray) ⊕ (Bool)) → GE → St → Prop, R = fun x e s => match x with | .inl v66 => e = .exit 4 ∧ s.G = fillKey (cut d G) (d + 1) 3 [.box [.p (.str a0.f0), .p (.sl (a0.f1.map cTState)), .p (.sl (a0.f2.map cTMove))]] ∧ s.F 2 = .p (.str v66) ∧ s.F 7 = .p (encP cTAuto_Auto r11.1) ∧ True | .inr r => e = .ret ∧ (r = r0 → Q .ret s) := ⟨_, rfl⟩
                refine lp (ts := []) rfl hL63 I63 R63 ?_ ?_ ?_
                · rw [hI63]
                  simp -implicitDefEqProofs only [go_sem, Nat.reduceEqDiff, Nat.reduceAdd, Nat.reduceLT, Nat.reduceLeDiff, Nat.reduceMul, Nat.reduceBEq, reduceIte, gi8, i8, c9, c13, gi23, i23, c24, gi58, i58]
                · clear h hL63
                  rintro ⟨v64, v65⟩ y s h i
                  rw [hI63] at i
                  obtain ⟨gi63, i63⟩ := i
                  replace h : m_law09_AutoTells_L2 a0 r11 (v64, v65) = some y := h
                  unfold m_law09_AutoTells_L2 at h
                  rcases ib h with ⟨c67, h⟩ | ⟨c67, h⟩
                  · obtain ⟨v68, hv68, h⟩ := bs h
                    replace hv68 := gis hv68
                    obtain ⟨r69, hr69, h⟩ := bs h
                    simp -implicitDefEqProofs only [go_sem, Nat.reduceEqDiff, Nat.reduceAdd, Nat.reduceLT, Nat.reduceLeDiff, Nat.reduceMul, Nat.reduceBEq, reduceIte, gi8, i8, c9, c13, gi23, i23, c24, gi58, i58, gi63, i63, c67, hv68]
                    refine call_frz (r' := .tup [.p (.int .i64 r69.1), .p (.bool r69.2)]) (m_auto_Auto_State_ev r11.1 v68.f0 r69 hr69 (d + 1) empty) (by simp -implicitDefEqProofs only [go_sem, Nat.reduceEqDiff, Nat.reduceAdd, Nat.reduceLT, Nat.reduceLeDiff, Nat.reduceMul, Nat.reduceBEq, reduceIte, gi8, i8, c9, c13, gi23, i23, c24, gi58, i58, gi63, i63, c67, hv68]) rfl (by simp -implicitDefEqProofs only [go_sem, Nat.reduceEqDiff, Nat.reduceAdd, Nat.reduceLT, Nat.reduceLeDiff, Nat.reduceMul, Nat.reduceBEq, reduceIte]) (by simp -implicitDefEqProofs only [go_sem, Nat.reduceEqDiff, Nat.reduceAdd, Nat.reduceLT, Nat.reduceLeDiff, Nat.reduceMul, Nat.reduceBEq, reduceIte]) ?_ rfl rfl
                    simp -implicitDefEqProofs only [go_sem, Nat.reduceEqDiff, Nat.reduceAdd, Nat.reduceLT, Nat.reduceLeDiff, Nat.reduceMul, Nat.reduceBEq, reduceIte, gi8, i8, c9, c13, gi23, i23, c24, gi58, i58, gi63, i63, c67, hv68]
                    obtain ⟨v70, hz, h⟩ := bs h
                    obtain ⟨R71, hR71⟩ : ∃ R : St → Prop, R = fun s => s.G = fillKey (cut d G) (d + 1) 3 [.box [.p (.str a0.f0), .p (.sl (a0.f1.map cTState)), .p (.sl (a0.f2.map cTMove))]] ∧ s.F 2 = .p (.str v64) ∧ s.F 3 = .bp (d + 1, 3, 0) 0 ∧ s.F 7 = .p (encP cTAuto_Auto r11.1) ∧ s.F 14 = .p (.int .i64 v65) ∧ s.F 154 = .p (.bool v70) ∧ True := ⟨_, rfl⟩
                    refine cutR R71 ?_ ?_
                    · replace h := hz
                      rcases ib h with ⟨c72, h⟩ | ⟨c72, h⟩
                      · cases h
                        simp -implicitDefEqProofs only [go_sem, Nat.reduceEqDiff, Nat.reduceAdd, Nat.reduceLT, Nat.reduceLeDiff, Nat.reduceMul, Nat.reduceBEq, reduceIte, gi8, i8, c9, c13, gi23, i23, c24, gi58, i58, gi63, i63, c67, hv68, c72]
                        rw [hR71]
                        simp -implicitDefEqProofs only [go_sem, Nat.reduceEqDiff, Nat.reduceAdd, Nat.reduceLT, Nat.reduceLeDiff, Nat.reduceMul, Nat.reduceBEq, reduceIte, gi8, i8, c9, c13, gi23, i23, c24, gi58, i58, gi63, i63, c67, hv68, c72]
                      · cases h
                        simp -implicitDefEqProofs only [go_sem, Nat.reduceEqDiff, Nat.reduceAdd, Nat.reduceLT, Nat.reduceLeDiff, Nat.reduceMul, Nat.reduceBEq, reduceIte, gi8, i8, c9, c13, gi23, i23, c24, gi58, i58, gi63, i63, c67, hv68, c72]
                        rw [hR71]
                        simp -implicitDefEqProofs only [go_sem, Nat.reduceEqDiff, Nat.reduceAdd, Nat.reduceLT, Nat.reduceLeDiff, Nat.reduceMul, Nat.reduceBEq, reduceIte, gi8, i8, c9, c13, gi23, i23, c24, gi58, i58, gi63, i63, c67, hv68, c72]
                    · replace h := h; clear hz
                      rintro s i
                      rw [hR71] at i
                      obtain ⟨gi73, i73⟩ := i
                      clear hR71
                      try dsimp only at h
                      rcases ib h with ⟨c74, h⟩ | ⟨c74, h⟩
                      · cases h
                        simp -implicitDefEqProofs only [go_sem, Nat.reduceEqDiff, Nat.reduceAdd, Nat.reduceLT, Nat.reduceLeDiff, Nat.reduceMul, Nat.reduceBEq, reduceIte, gi8, i8, c9, c13, gi23, i23, c24, gi58, i58, gi63, i63, c67, hv68, gi73, i73, c74]
                        rw [hR63]
                        refine ⟨rfl, ?_⟩
                        intro hr
                        subst hr
                        subst hQ
                        simp -implicitDefEqProofs only [go_sem, Nat.reduceEqDiff, Nat.reduceAdd, Nat.reduceLT, Nat.reduceLeDiff, Nat.reduceMul, Nat.reduceBEq, reduceIte, gi8, i8, c9, c13, gi23, i23, c24, gi58, i58, gi63, i63, c67, hv68, gi73, i73, c74, Try.results7]
                      · obtain ⟨_, c75, h⟩ := bs h
                        replace c75 := rqs c75
                        cases h
                        simp -implicitDefEqProofs only [go_sem, Nat.reduceEqDiff, Nat.reduceAdd, Nat.reduceLT, Nat.reduceLeDiff, Nat.reduceMul, Nat.reduceBEq, reduceIte, gi8, i8, c9, c13, gi23, i23, c24, gi58, i58, gi63, i63, c67, hv68, gi73, i73, c74, c75]
                        rw [hI63]
                        simp -implicitDefEqProofs only [go_sem, Nat.reduceEqDiff, Nat.reduceAdd, Nat.reduceLT, Nat.reduceLeDiff, Nat.reduceMul, Nat.reduceBEq, reduceIte, gi8, i8, c9, c13, gi23, i23, c24, gi58, i58, gi63, i63, c67, hv68, gi73, i73, c74, c75]
                  · cases h
                    simp -implicitDefEqProofs only [go_sem, Nat.reduceEqDiff, Nat.reduceAdd, Nat.reduceLT, Nat.reduceLeDiff, Nat.reduceMul, Nat.reduceBEq, reduceIte, gi8, i8, c9, c13, gi23, i23, c24, gi58, i58, gi63, i63, c67]
                    rw [hR63]
                    refine ⟨rfl, ?_⟩
                    simp -implicitDefEqProofs only [go_sem, Nat.reduceEqDiff, Nat.reduceAdd, Nat.reduceLT, Nat.reduceLeDiff, Nat.reduceMul, Nat.reduceBEq, reduceIte, gi8, i8, c9, c13, gi23, i23, c24, gi58, i58, gi63, i63, c67]
                · clear hL63 hI63
                  intro e s hr63
                  rw [hR63] at hr63
                  clear hR63
                  rcases z63 with v66 | r
                  · try dsimp only at h hr63
                    obtain ⟨rfl, gi76, i76⟩ := hr63
                    obtain ⟨_, c77, h⟩ := bs h
                    replace c77 := rqs c77
                    try simp -implicitDefEqProofs only [go_sem, Nat.reduceAdd, Nat.reduceLeDiff] at c77
                    obtain ⟨r78, hr78, h⟩ := bs h
                    simp -implicitDefEqProofs only [go_sem, Nat.reduceEqDiff, Nat.reduceAdd, Nat.reduceLT, Nat.reduceLeDiff, Nat.reduceMul, Nat.reduceBEq, reduceIte, gi8, i8, c9, c13, gi23, i23, c24, gi58, i58, gi76, i76, c77]
                    refine call_frz (r' := .tup [.p (.int .i64 r78.1), .p (.bool r78.2)]) (m_auto_Auto_State_ev r11.1 (v66 ++ (⟨#[39]⟩ : ByteArray)) r78 hr78 (d + 1) empty) (by simp -implicitDefEqProofs only [go_sem, Nat.reduceEqDiff, Nat.reduceAdd, Nat.reduceLT, Nat.reduceLeDiff, Nat.reduceMul, Nat.reduceBEq, reduceIte, gi8, i8, c9, c13, gi23, i23, c24, gi58, i58, gi76, i76, c77]) rfl (by simp -implicitDefEqProofs only [go_sem, Nat.reduceEqDiff, Nat.reduceAdd, Nat.reduceLT, Nat.reduceLeDiff, Nat.reduceMul, Nat.reduceBEq, reduceIte]) (by simp -implicitDefEqProofs only [go_sem, Nat.reduceEqDiff, Nat.reduceAdd, Nat.reduceLT, Nat.reduceLeDiff, Nat.reduceMul, Nat.reduceBEq, reduceIte]) ?_ rfl rfl
                    cases h
                    subst hQ
                    simp -implicitDefEqProofs only [go_sem, Nat.reduceEqDiff, Nat.reduceAdd, Nat.reduceLT, Nat.reduceLeDiff, Nat.reduceMul, Nat.reduceBEq, reduceIte, gi8, i8, c9, c13, gi23, i23, c24, gi58, i58, gi76, i76, c77, Try.results7]
                  · try dsimp only at h hr63
                    obtain ⟨rfl, hr63⟩ := hr63
                    cases h
                    try simp -implicitDefEqProofs only [go_sem, Nat.reduceEqDiff, Nat.reduceAdd, Nat.reduceLT, Nat.reduceLeDiff, Nat.reduceMul, Nat.reduceBEq, reduceIte]
                    exact hr63 rfl
              · try dsimp only at h hr27
                obtain ⟨rfl, hr27⟩ := hr27
                cases h
                try simp -implicitDefEqProofs only [go_sem, Nat.reduceEqDiff, Nat.reduceAdd, Nat.reduceLT, Nat.reduceLeDiff, Nat.reduceMul, Nat.reduceBEq, reduceIte]
                exact hr27 rfl
end Go.E
