import Derived.Test.YthgohaidfaldnaaMT0
set_option linter.all false
set_option maxRecDepth 100000
namespace Go.E
open Go Go.Proofs Go.Eng
variable {TB : Nat → Option Obj}
theorem m_ref09_Set_ev (a0 : TProto) (a1 : Int) (a2 : ByteArray) (r0 : Int) (h : m_ref09_Set a0 a1 a2 = some r0) (d : Nat) (G : Heap) : Tel Try.prog TB d 24 [.agg ((cTProto a0).map .p), .p (.int .i64 a1), .p (.str a2)] G (.p (.int .u32 r0)) G := by
  unfold m_ref09_Set at h
  refine Tel.intro mix Try.func24 rfl (Nat.le_of_ble_eq_true rfl) {frzAt := fun t => t == 25} (by kernel_rfl) (by kernel_rfl) ?_
  generalize hQ : callPost _ _ _ _ _ = Q
  simp -implicitDefEqProofs only [go_sem, Nat.reduceEqDiff, Nat.reduceAdd, Nat.reduceLT, Nat.reduceLeDiff, Nat.reduceMul, Nat.reduceBEq, reduceIte]
  obtain ⟨z5, hL5, h⟩ := bs h
  obtain ⟨I5, hI5⟩ : ∃ I : (Int × Int) → St → Prop, I = fun a s => match a with | (v6, v7) => s.G = fillKey (cut d G) (d + 1) 3 [.box [.p (.str a0.f0), .p (.sl (a0.f1.map cTState)), .p (.sl (a0.f2.map cTMove))]] ∧ s.F 1 = .p (.int .i64 a1) ∧ s.F 2 = .p (.str a2) ∧ s.F 3 = .bp (d + 1, 3, 0) 0 ∧ s.F 7 = .p (.int .u32 v6) ∧ s.F 8 = .p (.int .i64 v7) ∧ True := ⟨_, rfl⟩
  obtain ⟨R5, hR5⟩ : ∃ R : (Int) → GE → St → Prop, R = fun v8 e s => e = .exit 0 ∧ s.G = fillKey (cut d G) (d + 1) 3 [.box [.p (.str a0.f0), .p (.sl (a0.f1.map cTState)), .p (.sl (a0.f2.map cTMove))]] ∧ s.F 7 = .p (.int .u32 v8) ∧ True := ⟨_, rfl⟩
  refine lp (ts := []) rfl hL5 I5 R5 ?_ ?_ ?_
  · rw [hI5]
    simp -implicitDefEqProofs only [go_sem, Nat.reduceEqDiff, Nat.reduceAdd, Nat.reduceLT, Nat.reduceLeDiff, Nat.reduceMul, Nat.reduceBEq, reduceIte]
  · clear h hL5
    rintro ⟨v6, v7⟩ y s h i
    rw [hI5] at i
    obtain ⟨gi5, i5⟩ := i
    replace h : m_ref09_Set_L0 a0 a2 a1 (v6, v7) = some y := h
    unfold m_ref09_Set_L0 at h
    rcases ib h with ⟨c9, h⟩ | ⟨c9, h⟩
    · obtain ⟨r10, hr10, h⟩ := bs h
      simp -implicitDefEqProofs only [go_sem, Nat.reduceEqDiff, Nat.reduceAdd, Nat.reduceLT, Nat.reduceLeDiff, Nat.reduceMul, Nat.reduceBEq, reduceIte, gi5, i5, c9]
      refine call_frz (r' := .p (.sl (r10.map cTOut))) (m_ref09_Outs_ev a0 v7 a2 r10 hr10 (d + 1) empty) (by simp -implicitDefEqProofs only [go_sem, Nat.reduceEqDiff, Nat.reduceAdd, Nat.reduceLT, Nat.reduceLeDiff, Nat.reduceMul, Nat.reduceBEq, reduceIte, gi5, i5, c9]) rfl (by simp -implicitDefEqProofs only [go_sem, Nat.reduceEqDiff, Nat.reduceAdd, Nat.reduceLT, Nat.reduceLeDiff, Nat.reduceMul, Nat.reduceBEq, reduceIte]) (by simp -implicitDefEqProofs only [go_sem, Nat.reduceEqDiff, Nat.reduceAdd, Nat.reduceLT, Nat.reduceLeDiff, Nat.reduceMul, Nat.reduceBEq, reduceIte]) ?_ rfl rfl
      simp -implicitDefEqProofs only [go_sem, Nat.reduceEqDiff, Nat.reduceAdd, Nat.reduceLT, Nat.reduceLeDiff, Nat.reduceMul, Nat.reduceBEq, reduceIte, gi5, i5, c9]
      obtain ⟨z15, hL15, h⟩ := bs h
      obtain ⟨I15, hI15⟩ : ∃ I : (Bool × Int) → St → Prop, I = fun a s => match a with | (v16, v17) => s.G = fillKey (cut d G) (d + 1) 3 [.box [.p (.str a0.f0), .p (.sl (a0.f1.map cTState)), .p (.sl (a0.f2.map cTMove))]] ∧ s.F 1 = .p (.int .i64 a1) ∧ s.F 2 = .p (.str a2) ∧ s.F 3 = .bp (d + 1, 3, 0) 0 ∧ s.F 7 = .p (.int .u32 (IntKind.wrap .u32 (v6 * 2))) ∧ s.F 8 = .p (.int .i64 v7) ∧ s.F 9 = .p (.sl (r10.map cTOut)) ∧ s.F 10 = .p (.bool v16) ∧ s.F 11 = .p (.int .i64 v17) ∧ True := ⟨_, rfl⟩
      obtain ⟨R15, hR15⟩ : ∃ R : (Bool) → GE → St → Prop, R = fun v18 e s => e = .exit 2 ∧ s.G = fillKey (cut d G) (d + 1) 3 [.box [.p (.str a0.f0), .p (.sl (a0.f1.map cTState)), .p (.sl (a0.f2.map cTMove))]] ∧ s.F 1 = .p (.int .i64 a1) ∧ s.F 2 = .p (.str a2) ∧ s.F 3 = .bp (d + 1, 3, 0) 0 ∧ s.F 7 = .p (.int .u32 (IntKind.wrap .u32 (v6 * 2))) ∧ s.F 8 = .p (.int .i64 v7) ∧ s.F 9 = .p (.sl (r10.map cTOut)) ∧ s.F 10 = .p (.bool v18) ∧ True := ⟨_, rfl⟩
      refine lp (ts := []) rfl hL15 I15 R15 ?_ ?_ ?_
      · rw [hI15]
        simp -implicitDefEqProofs only [go_sem, Nat.reduceEqDiff, Nat.reduceAdd, Nat.reduceLT, Nat.reduceLeDiff, Nat.reduceMul, Nat.reduceBEq, reduceIte, gi5, i5, c9]
      · clear h hL15
        rintro ⟨v16, v17⟩ y s h i
        rw [hI15] at i
        obtain ⟨gi15, i15⟩ := i
        replace h : m_ref09_Set_L1 r10 v7 (v16, v17) = some y := h
        unfold m_ref09_Set_L1 at h
        rcases ib h with ⟨c19, h⟩ | ⟨c19, h⟩
        · simp -implicitDefEqProofs only [go_sem, Nat.reduceEqDiff, Nat.reduceAdd, Nat.reduceLT, Nat.reduceLeDiff, Nat.reduceMul, Nat.reduceBEq, reduceIte, gi5, i5, c9, gi15, i15, c19]
          obtain ⟨v20, hz, h⟩ := bs h
          obtain ⟨R21, hR21⟩ : ∃ R : St → Prop, R = fun s => s.G = fillKey (cut d G) (d + 1) 3 [.box [.p (.str a0.f0), .p (.sl (a0.f1.map cTState)), .p (.sl (a0.f2.map cTMove))]] ∧ s.F 1 = .p (.int .i64 a1) ∧ s.F 2 = .p (.str a2) ∧ s.F 3 = .bp (d + 1, 3, 0) 0 ∧ s.F 7 = .p (.int .u32 (IntKind.wrap .u32 (v6 * 2))) ∧ s.F 8 = .p (.int .i64 v7) ∧ s.F 9 = .p (.sl (r10.map cTOut)) ∧ s.F 10 = .p (.bool v20) ∧ s.F 11 = .p (.int .i64 v17) ∧ True := ⟨_, rfl⟩
          refine cutR R21 ?_ ?_
          · replace h := hz
            rcases ib h with ⟨c22, h⟩ | ⟨c22, h⟩
            · obtain ⟨v23, hv23, h⟩ := bs h
              replace hv23 := gis hv23
              cases h
              simp -implicitDefEqProofs only [go_sem, Nat.reduceEqDiff, Nat.reduceAdd, Nat.reduceLT, Nat.reduceLeDiff, Nat.reduceMul, Nat.reduceBEq, reduceIte, gi5, i5, c9, gi15, i15, c19, c22, hv23]
              rw [hR21]
              simp -implicitDefEqProofs only [go_sem, Nat.reduceEqDiff, Nat.reduceAdd, Nat.reduceLT, Nat.reduceLeDiff, Nat.reduceMul, Nat.reduceBEq, reduceIte, gi5, i5, c9, gi15, i15, c19, c22, hv23]
            · cases h
              simp -implicitDefEqProofs only [go_sem, Nat.reduceEqDiff, Nat.reduceAdd, Nat.reduceLT, Nat.reduceLeDiff, Nat.reduceMul, Nat.reduceBEq, reduceIte, gi5, i5, c9, gi15, i15, c19, c22]
              rw [hR21]
              simp -implicitDefEqProofs only [go_sem, Nat.reduceEqDiff, Nat.reduceAdd, Nat.reduceLT, Nat.reduceLeDiff, Nat.reduceMul, Nat.reduceBEq, reduceIte, gi5, i5, c9, gi15, i15, c19, c22]
          · replace h := h; clear hz
            rintro s i
            rw [hR21] at i
            obtain ⟨gi24, i24⟩ := i
            clear hR21
            try dsimp only at h
            cases h
            simp -implicitDefEqProofs only [go_sem, Nat.reduceEqDiff, Nat.reduceAdd, Nat.reduceLT, Nat.reduceLeDiff, Nat.reduceMul, Nat.reduceBEq, reduceIte, gi5, i5, c9, gi15, i15, c19, gi24, i24]
            rw [hI15]
            simp -implicitDefEqProofs only [go_sem, Nat.reduceEqDiff, Nat.reduceAdd, Nat.reduceLT, Nat.reduceLeDiff, Nat.reduceMul, Nat.reduceBEq, reduceIte, gi5, i5, c9, gi15, i15, c19, gi24, i24]
        · cases h
          simp -implicitDefEqProofs only [go_sem, Nat.reduceEqDiff, Nat.reduceAdd, Nat.reduceLT, Nat.reduceLeDiff, Nat.reduceMul, Nat.reduceBEq, reduceIte, gi5, i5, c9, gi15, i15, c19]
          rw [hR15]
          refine ⟨rfl, ?_⟩
          simp -implicitDefEqProofs only [go_sem, Nat.reduceEqDiff, Nat.reduceAdd, Nat.reduceLT, Nat.reduceLeDiff, Nat.reduceMul, Nat.reduceBEq, reduceIte, gi5, i5, c9, gi15, i15, c19]
      · clear hL15 hI15
        intro e s hr15
        rw [hR15] at hr15
        clear hR15
        revert h hr15
        generalize z15 = v18
        intro h hr15
        try dsimp only at h hr15
        obtain ⟨rfl, gi25, i25⟩ := hr15
        simp -implicitDefEqProofs only [go_sem, Nat.reduceEqDiff, Nat.reduceAdd, Nat.reduceLT, Nat.reduceLeDiff, Nat.reduceMul, Nat.reduceBEq, reduceIte, gi5, i5, c9, gi25, i25]
        obtain ⟨v26, hz, h⟩ := bs h
        obtain ⟨R27, hR27⟩ : ∃ R : St → Prop, R = fun s => s.G = fillKey (cut d G) (d + 1) 3 [.box [.p (.str a0.f0), .p (.sl (a0.f1.map cTState)), .p (.sl (a0.f2.map cTMove))]] ∧ s.F 1 = .p (.int .i64 a1) ∧ s.F 2 = .p (.str a2) ∧ s.F 3 = .bp (d + 1, 3, 0) 0 ∧ s.F 7 = .p (.int .u32 (IntKind.wrap .u32 (v6 * 2))) ∧ s.F 8 = .p (.int .i64 v7) ∧ s.F 70 = .p (.bool v26) ∧ True := ⟨_, rfl⟩
        refine cutR R27 ?_ ?_
        · replace h := hz
          rcases ib h with ⟨c28, h⟩ | ⟨c28, h⟩
          · obtain ⟨v29, hv29, h⟩ := bs h
            replace hv29 := gis hv29
            rcases ib h with ⟨c30, h⟩ | ⟨c30, h⟩
            · cases h
              simp -implicitDefEqProofs only [go_sem, Nat.reduceEqDiff, Nat.reduceAdd, Nat.reduceLT, Nat.reduceLeDiff, Nat.reduceMul, Nat.reduceBEq, reduceIte, gi5, i5, c9, gi25, i25, c28, hv29, c30]
              rw [hR27]
              simp -implicitDefEqProofs only [go_sem, Nat.reduceEqDiff, Nat.reduceAdd, Nat.reduceLT, Nat.reduceLeDiff, Nat.reduceMul, Nat.reduceBEq, reduceIte, gi5, i5, c9, gi25, i25, c28, hv29, c30]
            · rcases ib h with ⟨c31, h⟩ | ⟨c31, h⟩
              · rcases ib h with ⟨c32, h⟩ | ⟨c32, h⟩
                · cases h
                  simp -implicitDefEqProofs only [go_sem, Nat.reduceEqDiff, Nat.reduceAdd, Nat.reduceLT, Nat.reduceLeDiff, Nat.reduceMul, Nat.reduceBEq, reduceIte, gi5, i5, c9, gi25, i25, c28, hv29, c30, c31, c32]
                  rw [hR27]
                  simp -implicitDefEqProofs only [go_sem, Nat.reduceEqDiff, Nat.reduceAdd, Nat.reduceLT, Nat.reduceLeDiff, Nat.reduceMul, Nat.reduceBEq, reduceIte, gi5, i5, c9, gi25, i25, c28, hv29, c30, c31, c32]
                · rcases ib h with ⟨c33, h⟩ | ⟨c33, h⟩
                  · cases h
                    simp -implicitDefEqProofs only [go_sem, Nat.reduceEqDiff, Nat.reduceAdd, Nat.reduceLT, Nat.reduceLeDiff, Nat.reduceMul, Nat.reduceBEq, reduceIte, gi5, i5, c9, gi25, i25, c28, hv29, c30, c31, c32, c33]
                    rw [hR27]
                    simp -implicitDefEqProofs only [go_sem, Nat.reduceEqDiff, Nat.reduceAdd, Nat.reduceLT, Nat.reduceLeDiff, Nat.reduceMul, Nat.reduceBEq, reduceIte, gi5, i5, c9, gi25, i25, c28, hv29, c30, c31, c32, c33]
                  · cases h
                    simp -implicitDefEqProofs only [go_sem, Nat.reduceEqDiff, Nat.reduceAdd, Nat.reduceLT, Nat.reduceLeDiff, Nat.reduceMul, Nat.reduceBEq, reduceIte, gi5, i5, c9, gi25, i25, c28, hv29, c30, c31, c32, c33]
                    rw [hR27]
                    simp -implicitDefEqProofs only [go_sem, Nat.reduceEqDiff, Nat.reduceAdd, Nat.reduceLT, Nat.reduceLeDiff, Nat.reduceMul, Nat.reduceBEq, reduceIte, gi5, i5, c9, gi25, i25, c28, hv29, c30, c31, c32, c33]
              · rcases ib h with ⟨c34, h⟩ | ⟨c34, h⟩
                · cases h
                  simp -implicitDefEqProofs only [go_sem, Nat.reduceEqDiff, Nat.reduceAdd, Nat.reduceLT, Nat.reduceLeDiff, Nat.reduceMul, Nat.reduceBEq, reduceIte, gi5, i5, c9, gi25, i25, c28, hv29, c30, c31, c34]
                  rw [hR27]
                  simp -implicitDefEqProofs only [go_sem, Nat.reduceEqDiff, Nat.reduceAdd, Nat.reduceLT, Nat.reduceLeDiff, Nat.reduceMul, Nat.reduceBEq, reduceIte, gi5, i5, c9, gi25, i25, c28, hv29, c30, c31, c34]
                · cases h
                  simp -implicitDefEqProofs only [go_sem, Nat.reduceEqDiff, Nat.reduceAdd, Nat.reduceLT, Nat.reduceLeDiff, Nat.reduceMul, Nat.reduceBEq, reduceIte, gi5, i5, c9, gi25, i25, c28, hv29, c30, c31, c34]
                  rw [hR27]
                  simp -implicitDefEqProofs only [go_sem, Nat.reduceEqDiff, Nat.reduceAdd, Nat.reduceLT, Nat.reduceLeDiff, Nat.reduceMul, Nat.reduceBEq, reduceIte, gi5, i5, c9, gi25, i25, c28, hv29, c30, c31, c34]
          · rcases ib h with ⟨c35, h⟩ | ⟨c35, h⟩
            · rcases ib h with ⟨c36, h⟩ | ⟨c36, h⟩
              · cases h
                simp -implicitDefEqProofs only [go_sem, Nat.reduceEqDiff, Nat.reduceAdd, Nat.reduceLT, Nat.reduceLeDiff, Nat.reduceMul, Nat.reduceBEq, reduceIte, gi5, i5, c9, gi25, i25, c28, c35, c36]
                rw [hR27]
                simp -implicitDefEqProofs only [go_sem, Nat.reduceEqDiff, Nat.reduceAdd, Nat.reduceLT, Nat.reduceLeDiff, Nat.reduceMul, Nat.reduceBEq, reduceIte, gi5, i5, c9, gi25, i25, c28, c35, c36]
              · rcases ib h with ⟨c37, h⟩ | ⟨c37, h⟩
                · cases h
                  simp -implicitDefEqProofs only [go_sem, Nat.reduceEqDiff, Nat.reduceAdd, Nat.reduceLT, Nat.reduceLeDiff, Nat.reduceMul, Nat.reduceBEq, reduceIte, gi5, i5, c9, gi25, i25, c28, c35, c36, c37]
                  rw [hR27]
                  simp -implicitDefEqProofs only [go_sem, Nat.reduceEqDiff, Nat.reduceAdd, Nat.reduceLT, Nat.reduceLeDiff, Nat.reduceMul, Nat.reduceBEq, reduceIte, gi5, i5, c9, gi25, i25, c28, c35, c36, c37]
                · cases h
                  simp -implicitDefEqProofs only [go_sem, Nat.reduceEqDiff, Nat.reduceAdd, Nat.reduceLT, Nat.reduceLeDiff, Nat.reduceMul, Nat.reduceBEq, reduceIte, gi5, i5, c9, gi25, i25, c28, c35, c36, c37]
                  rw [hR27]
                  simp -implicitDefEqProofs only [go_sem, Nat.reduceEqDiff, Nat.reduceAdd, Nat.reduceLT, Nat.reduceLeDiff, Nat.reduceMul, Nat.reduceBEq, reduceIte, gi5, i5, c9, gi25, i25, c28, c35, c36, c37]
            · rcases ib h with ⟨c38, h⟩ | ⟨c38, h⟩
              · cases h
                simp -implicitDefEqProofs only [go_sem, Nat.reduceEqDiff, Nat.reduceAdd, Nat.reduceLT, Nat.reduceLeDiff, Nat.reduceMul, Nat.reduceBEq, reduceIte, gi5, i5, c9, gi25, i25, c28, c35, c38]
                rw [hR27]
                simp -implicitDefEqProofs only [go_sem, Nat.reduceEqDiff, Nat.reduceAdd, Nat.reduceLT, Nat.reduceLeDiff, Nat.reduceMul, Nat.reduceBEq, reduceIte, gi5, i5, c9, gi25, i25, c28, c35, c38]
              · cases h
                simp -implicitDefEqProofs only [go_sem, Nat.reduceEqDiff, Nat.reduceAdd, Nat.reduceLT, Nat.reduceLeDiff, Nat.reduceMul, Nat.reduceBEq, reduceIte, gi5, i5, c9, gi25, i25, c28, c35, c38]
                rw [hR27]
                simp -implicitDefEqProofs only [go_sem, Nat.reduceEqDiff, Nat.reduceAdd, Nat.reduceLT, Nat.reduceLeDiff, Nat.reduceMul, Nat.reduceBEq, reduceIte, gi5, i5, c9, gi25, i25, c28, c35, c38]
        · replace h := h; clear hz
          rintro s i
          rw [hR27] at i
          obtain ⟨gi39, i39⟩ := i
          clear hR27
          try dsimp only at h
          simp -implicitDefEqProofs only [go_sem, Nat.reduceEqDiff, Nat.reduceAdd, Nat.reduceLT, Nat.reduceLeDiff, Nat.reduceMul, Nat.reduceBEq, reduceIte, gi5, i5, c9, gi25, i25, gi39, i39]
          obtain ⟨v40, hz, h⟩ := bs h
          obtain ⟨R41, hR41⟩ : ∃ R : St → Prop, R = fun s => s.G = fillKey (cut d G) (d + 1) 3 [.box [.p (.str a0.f0), .p (.sl (a0.f1.map cTState)), .p (.sl (a0.f2.map cTMove))]] ∧ s.F 1 = .p (.int .i64 a1) ∧ s.F 2 = .p (.str a2) ∧ s.F 3 = .bp (d + 1, 3, 0) 0 ∧ s.F 7 = .p (.int .u32 v40) ∧ s.F 8 = .p (.int .i64 v7) ∧ True := ⟨_, rfl⟩
          refine cutG R41 ?_ ?_
          · replace h := hz
            rcases ib h with ⟨c42, h⟩ | ⟨c42, h⟩
            · cases h
              simp -implicitDefEqProofs only [go_sem, Nat.reduceEqDiff, Nat.reduceAdd, Nat.reduceLT, Nat.reduceLeDiff, Nat.reduceMul, Nat.reduceBEq, reduceIte, gi5, i5, c9, gi25, i25, gi39, i39, c42]
              rw [hR41]
              simp -implicitDefEqProofs only [go_sem, Nat.reduceEqDiff, Nat.reduceAdd, Nat.reduceLT, Nat.reduceLeDiff, Nat.reduceMul, Nat.reduceBEq, reduceIte, gi5, i5, c9, gi25, i25, gi39, i39, c42]
            · cases h
              simp -implicitDefEqProofs only [go_sem, Nat.reduceEqDiff, Nat.reduceAdd, Nat.reduceLT, Nat.reduceLeDiff, Nat.reduceMul, Nat.reduceBEq, reduceIte, gi5, i5, c9, gi25, i25, gi39, i39, c42]
              rw [hR41]
              simp -implicitDefEqProofs only [go_sem, Nat.reduceEqDiff, Nat.reduceAdd, Nat.reduceLT, Nat.reduceLeDiff, Nat.reduceMul, Nat.reduceBEq, reduceIte, gi5, i5, c9, gi25, i25, gi39, i39, c42]
          · replace h := h; clear hz
            rintro s i
            rw [hR41] at i
            obtain ⟨gi43, i43⟩ := i
            clear hR41
            try dsimp only at h
            cases h
            simp -implicitDefEqProofs only [go_sem, Nat.reduceEqDiff, Nat.reduceAdd, Nat.reduceLT, Nat.reduceLeDiff, Nat.reduceMul, Nat.reduceBEq, reduceIte, gi5, i5, c9, gi25, i25, gi39, i39, gi43, i43]
            rw [hI5]
            simp -implicitDefEqProofs only [go_sem, Nat.reduceEqDiff, Nat.reduceAdd, Nat.reduceLT, Nat.reduceLeDiff, Nat.reduceMul, Nat.reduceBEq, reduceIte, gi5, i5, c9, gi25, i25, gi39, i39, gi43, i43]
    · cases h
      simp -implicitDefEqProofs only [go_sem, Nat.reduceEqDiff, Nat.reduceAdd, Nat.reduceLT, Nat.reduceLeDiff, Nat.reduceMul, Nat.reduceBEq, reduceIte, gi5, i5, c9]
      rw [hR5]
      refine ⟨rfl, ?_⟩
      simp -implicitDefEqProofs only [go_sem, Nat.reduceEqDiff, Nat.reduceAdd, Nat.reduceLT, Nat.reduceLeDiff, Nat.reduceMul, Nat.reduceBEq, reduceIte, gi5, i5, c9]
  · clear hL5 hI5
    intro e s hr5
    rw [hR5] at hr5
    clear hR5
    revert h hr5
    generalize z5 = v8
    intro h hr5
    try dsimp only at h hr5
    obtain ⟨rfl, gi44, i44⟩ := hr5
    cases h
    subst hQ
    simp -implicitDefEqProofs only [go_sem, Nat.reduceEqDiff, Nat.reduceAdd, Nat.reduceLT, Nat.reduceLeDiff, Nat.reduceMul, Nat.reduceBEq, reduceIte, gi44, i44, Try.results24]
theorem m_ref09_Step_ev (a0 : TProto) (a1 : Int) (a2 : ByteArray) (a3 : ByteArray) (r0 : Int) (h : m_ref09_Step a0 a1 a2 a3 = some r0) (d : Nat) (G : Heap) : Tel Try.prog TB d 16 [.agg ((cTProto a0).map .p), .p (.int .u32 a1), .p (.str a2), .p (.str a3)] G (.p (.int .u32 r0)) G := by
  unfold m_ref09_Step at h
  refine Tel.intro mix Try.func16 rfl (Nat.le_of_ble_eq_true rfl) {frzAt := fun t => t == 23 || t == 32 || t == 49} (by kernel_rfl) (by kernel_rfl) ?_
  generalize hQ : callPost _ _ _ _ _ = Q
  simp -implicitDefEqProofs only [go_sem, Nat.reduceEqDiff, Nat.reduceAdd, Nat.reduceLT, Nat.reduceLeDiff, Nat.reduceMul, Nat.reduceBEq, reduceIte]
  obtain ⟨z5, hL5, h⟩ := bs h
  obtain ⟨I5, hI5⟩ : ∃ I : (Int × Int) → St → Prop, I = fun a s => match a with | (v6, v7) => s.G = fillKey (cut d G) (d + 1) 4 [.box [.p (.str a0.f0), .p (.sl (a0.f1.map cTState)), .p (.sl (a0.f2.map cTMove))]] ∧ s.F 1 = .p (.int .u32 a1) ∧ s.F 2 = .p (.str a2) ∧ s.F 3 = .p (.str a3) ∧ s.F 4 = .bp (d + 1, 4, 0) 0 ∧ s.F 9 = .p (.int .u32 v6) ∧ s.F 10 = .p (.int .i64 v7) ∧ True := ⟨_, rfl⟩
  obtain ⟨R5, hR5⟩ : ∃ R : (Int) → GE → St → Prop, R = fun v8 e s => e = .exit 0 ∧ s.G = fillKey (cut d G) (d + 1) 4 [.box [.p (.str a0.f0), .p (.sl (a0.f1.map cTState)), .p (.sl (a0.f2.map cTMove))]] ∧ s.F 9 = .p (.int .u32 v8) ∧ True := ⟨_, rfl⟩
  refine lp (ts := []) rfl hL5 I5 R5 ?_ ?_ ?_
  · rw [hI5]
    simp -implicitDefEqProofs only [go_sem, Nat.reduceEqDiff, Nat.reduceAdd, Nat.reduceLT, Nat.reduceLeDiff, Nat.reduceMul, Nat.reduceBEq, reduceIte]
  · clear h hL5
    rintro ⟨v6, v7⟩ y s h i
    rw [hI5] at i
    obtain ⟨gi5, i5⟩ := i
    replace h : m_ref09_Step_L0 a0 a2 a1 a3 (v6, v7) = some y := h
    unfold m_ref09_Step_L0 at h
    rcases ib h with ⟨c9, h⟩ | ⟨c9, h⟩
    · obtain ⟨r10, hr10, h⟩ := bs h
      simp -implicitDefEqProofs only [go_sem, Nat.reduceEqDiff, Nat.reduceAdd, Nat.reduceLT, Nat.reduceLeDiff, Nat.reduceMul, Nat.reduceBEq, reduceIte, gi5, i5, c9]
      refine call_frz (r' := .p (.sl (r10.map cTOut))) (m_ref09_Outs_ev a0 v7 a2 r10 hr10 (d + 1) empty) (by simp -implicitDefEqProofs only [go_sem, Nat.reduceEqDiff, Nat.reduceAdd, Nat.reduceLT, Nat.reduceLeDiff, Nat.reduceMul, Nat.reduceBEq, reduceIte, gi5, i5, c9]) rfl (by simp -implicitDefEqProofs only [go_sem, Nat.reduceEqDiff, Nat.reduceAdd, Nat.reduceLT, Nat.reduceLeDiff, Nat.reduceMul, Nat.reduceBEq, reduceIte]) (by simp -implicitDefEqProofs only [go_sem, Nat.reduceEqDiff, Nat.reduceAdd, Nat.reduceLT, Nat.reduceLeDiff, Nat.reduceMul, Nat.reduceBEq, reduceIte]) ?_ rfl rfl
      simp -implicitDefEqProofs only [go_sem, Nat.reduceEqDiff, Nat.reduceAdd, Nat.reduceLT, Nat.reduceLeDiff, Nat.reduceMul, Nat.reduceBEq, reduceIte, gi5, i5, c9]
      obtain ⟨z15, hL15, h⟩ := bs h
      obtain ⟨I15, hI15⟩ : ∃ I : (Int × Int) → St → Prop, I = fun a s => match a with | (v16, v17) => s.G = fillKey (cut d G) (d + 1) 4 [.box [.p (.str a0.f0), .p (.sl (a0.f1.map cTState)), .p (.sl (a0.f2.map cTMove))]] ∧ s.F 1 = .p (.int .u32 a1) ∧ s.F 2 = .p (.str a2) ∧ s.F 3 = .p (.str a3) ∧ s.F 4 = .bp (d + 1, 4, 0) 0 ∧ s.F 9 = .p (.int .u32 v16) ∧ s.F 10 = .p (.int .i64 v7) ∧ s.F 11 = .p (.sl (r10.map cTOut)) ∧ s.F 12 = .p (.int .i64 v17) ∧ True := ⟨_, rfl⟩
      obtain ⟨R15, hR15⟩ : ∃ R : (Int) → GE → St → Prop, R = fun v18 e s => e = .exit 2 ∧ s.G = fillKey (cut d G) (d + 1) 4 [.box [.p (.str a0.f0), .p (.sl (a0.f1.map cTState)), .p (.sl (a0.f2.map cTMove))]] ∧ s.F 1 = .p (.int .u32 a1) ∧ s.F 2 = .p (.str a2) ∧ s.F 3 = .p (.str a3) ∧ s.F 4 = .bp (d + 1, 4, 0) 0 ∧ s.F 9 = .p (.int .u32 v18) ∧ s.F 10 = .p (.int .i64 v7) ∧ True := ⟨_, rfl⟩
      refine lp (ts := []) rfl hL15 I15 R15 ?_ ?_ ?_
      · rw [hI15]
        simp -implicitDefEqProofs only [go_sem, Nat.reduceEqDiff, Nat.reduceAdd, Nat.reduceLT, Nat.reduceLeDiff, Nat.reduceMul, Nat.reduceBEq, reduceIte, gi5, i5, c9]
      · clear h hL15
        rintro ⟨v16, v17⟩ y s h i
        rw [hI15] at i
        obtain ⟨gi15, i15⟩ := i
        replace h : m_ref09_Step_L1 r10 a1 v7 a3 (v16, v17) = some y := h
        unfold m_ref09_Step_L1 at h
        rcases ib h with ⟨c19, h⟩ | ⟨c19, h⟩
        · obtain ⟨r20, hr20, h⟩ := bs h
          simp -implicitDefEqProofs only [go_sem, Nat.reduceEqDiff, Nat.reduceAdd, Nat.reduceLT, Nat.reduceLeDiff, Nat.reduceMul, Nat.reduceBEq, reduceIte, gi5, i5, c9, gi15, i15, c19]
          refine call_frz (r' := .p (.bool r20)) (m_ref09_Bit_ev a1 v7 r20 hr20 (d + 1) empty) (by simp -implicitDefEqProofs only [go_sem, Nat.reduceEqDiff, Nat.reduceAdd, Nat.reduceLT, Nat.reduceLeDiff, Nat.reduceMul, Nat.reduceBEq, reduceIte, gi5, i5, c9, gi15, i15, c19]) rfl (by simp -implicitDefEqProofs only [go_sem, Nat.reduceEqDiff, Nat.reduceAdd, Nat.reduceLT, Nat.reduceLeDiff, Nat.reduceMul, Nat.reduceBEq, reduceIte]) (by simp -implicitDefEqProofs only [go_sem, Nat.reduceEqDiff, Nat.reduceAdd, Nat.reduceLT, Nat.reduceLeDiff, Nat.reduceMul, Nat.reduceBEq, reduceIte]) ?_ rfl rfl
          simp -implicitDefEqProofs only [go_sem, Nat.reduceEqDiff, Nat.reduceAdd, Nat.reduceLT, Nat.reduceLeDiff, Nat.reduceMul, Nat.reduceBEq, reduceIte, gi5, i5, c9, gi15, i15, c19]
          obtain ⟨v21, hz, h⟩ := bs h
          obtain ⟨R22, hR22⟩ : ∃ R : St → Prop, R = fun s => s.G = fillKey (cut d G) (d + 1) 4 [.box [.p (.str a0.f0), .p (.sl (a0.f1.map cTState)), .p (.sl (a0.f2.map cTMove))]] ∧ s.F 1 = .p (.int .u32 a1) ∧ s.F 2 = .p (.str a2) ∧ s.F 3 = .p (.str a3) ∧ s.F 4 = .bp (d + 1, 4, 0) 0 ∧ s.F 9 = .p (.int .u32 v16) ∧ s.F 10 = .p (.int .i64 v7) ∧ s.F 11 = .p (.sl (r10.map cTOut)) ∧ s.F 12 = .p (.int .i64 v17) ∧ s.F 51 = .p (.bool v21) ∧ True := ⟨_, rfl⟩
          refine cutR R22 ?_ ?_
          · replace h := hz
            rcases ib h with ⟨c23, h⟩ | ⟨c23, h⟩
            · obtain ⟨v24, hv24, h⟩ := bs h
              replace hv24 := gis hv24
              rcases ib h with ⟨c25, h⟩ | ⟨c25, h⟩
              · obtain ⟨r26, hr26, h⟩ := bs h
                simp -implicitDefEqProofs only [go_sem, Nat.reduceEqDiff, Nat.reduceAdd, Nat.reduceLT, Nat.reduceLeDiff, Nat.reduceMul, Nat.reduceBEq, reduceIte, gi5, i5, c9, gi15, i15, c19, c23, hv24, c25]
                refine call_frz (r' := .p (.bool r26)) (m_ref09_Bit_ev v16 v24.f1 r26 hr26 (d + 1) empty) (by simp -implicitDefEqProofs only [go_sem, Nat.reduceEqDiff, Nat.reduceAdd, Nat.reduceLT, Nat.reduceLeDiff, Nat.reduceMul, Nat.reduceBEq, reduceIte, gi5, i5, c9, gi15, i15, c19, c23, hv24, c25]) rfl (by simp -implicitDefEqProofs only [go_sem, Nat.reduceEqDiff, Nat.reduceAdd, Nat.reduceLT, Nat.reduceLeDiff, Nat.reduceMul, Nat.reduceBEq, reduceIte]) (by simp -implicitDefEqProofs only [go_sem, Nat.reduceEqDiff, Nat.reduceAdd, Nat.reduceLT, Nat.reduceLeDiff, Nat.reduceMul, Nat.reduceBEq, reduceIte]) ?_ rfl rfl
                cases h
                simp -implicitDefEqProofs only [go_sem, Nat.reduceEqDiff, Nat.reduceAdd, Nat.reduceLT, Nat.reduceLeDiff, Nat.reduceMul, Nat.reduceBEq, reduceIte, gi5, i5, c9, gi15, i15, c19, c23, hv24, c25]
                rw [hR22]
                simp -implicitDefEqProofs only [go_sem, Nat.reduceEqDiff, Nat.reduceAdd, Nat.reduceLT, Nat.reduceLeDiff, Nat.reduceMul, Nat.reduceBEq, reduceIte, gi5, i5, c9, gi15, i15, c19, c23, hv24, c25]
              · cases h
                simp -implicitDefEqProofs only [go_sem, Nat.reduceEqDiff, Nat.reduceAdd, Nat.reduceLT, Nat.reduceLeDiff, Nat.reduceMul, Nat.reduceBEq, reduceIte, gi5, i5, c9, gi15, i15, c19, c23, hv24, c25]
                rw [hR22]
                simp -implicitDefEqProofs only [go_sem, Nat.reduceEqDiff, Nat.reduceAdd, Nat.reduceLT, Nat.reduceLeDiff, Nat.reduceMul, Nat.reduceBEq, reduceIte, gi5, i5, c9, gi15, i15, c19, c23, hv24, c25]
            · cases h
              simp -implicitDefEqProofs only [go_sem, Nat.reduceEqDiff, Nat.reduceAdd, Nat.reduceLT, Nat.reduceLeDiff, Nat.reduceMul, Nat.reduceBEq, reduceIte, gi5, i5, c9, gi15, i15, c19, c23]
              rw [hR22]
              simp -implicitDefEqProofs only [go_sem, Nat.reduceEqDiff, Nat.reduceAdd, Nat.reduceLT, Nat.reduceLeDiff, Nat.reduceMul, Nat.reduceBEq, reduceIte, gi5, i5, c9, gi15, i15, c19, c23]
          · replace h := h; clear hz
            rintro s i
            rw [hR22] at i
            obtain ⟨gi27, i27⟩ := i
            clear hR22
            try dsimp only at h
            simp -implicitDefEqProofs only [go_sem, Nat.reduceEqDiff, Nat.reduceAdd, Nat.reduceLT, Nat.reduceLeDiff, Nat.reduceMul, Nat.reduceBEq, reduceIte, gi5, i5, c9, gi15, i15, c19, gi27, i27]
            obtain ⟨v28, hz, h⟩ := bs h
            obtain ⟨R29, hR29⟩ : ∃ R : St → Prop, R = fun s => s.G = fillKey (cut d G) (d + 1) 4 [.box [.p (.str a0.f0), .p (.sl (a0.f1.map cTState)), .p (.sl (a0.f2.map cTMove))]] ∧ s.F 1 = .p (.int .u32 a1) ∧ s.F 2 = .p (.str a2) ∧ s.F 3 = .p (.str a3) ∧ s.F 4 = .bp (d + 1, 4, 0) 0 ∧ s.F 9 = .p (.int .u32 v28) ∧ s.F 10 = .p (.int .i64 v7) ∧ s.F 11 = .p (.sl (r10.map cTOut)) ∧ s.F 12 = .p (.int .i64 v17) ∧ True := ⟨_, rfl⟩
            refine cutG R29 ?_ ?_
            · replace h := hz
              rcases ib h with ⟨c30, h⟩ | ⟨c30, h⟩
              · obtain ⟨v31, hv31, h⟩ := bs h
                replace hv31 := gis hv31
                obtain ⟨_, c32, h⟩ := bs h
                replace c32 := rqs c32
                cases h
                simp -implicitDefEqProofs only [go_sem, Nat.reduceEqDiff, Nat.reduceAdd, Nat.reduceLT, Nat.reduceLeDiff, Nat.reduceMul, Nat.reduceBEq, reduceIte, gi5, i5, c9, gi15, i15, c19, gi27, i27, c30, hv31, c32]
                rw [hR29]
                simp -implicitDefEqProofs only [go_sem, Nat.reduceEqDiff, Nat.reduceAdd, Nat.reduceLT, Nat.reduceLeDiff, Nat.reduceMul, Nat.reduceBEq, reduceIte, gi5, i5, c9, gi15, i15, c19, gi27, i27, c30, hv31, c32]
              · cases h
                simp -implicitDefEqProofs only [go_sem, Nat.reduceEqDiff, Nat.reduceAdd, Nat.reduceLT, Nat.reduceLeDiff, Nat.reduceMul, Nat.reduceBEq, reduceIte, gi5, i5, c9, gi15, i15, c19, gi27, i27, c30]
                rw [hR29]
                simp -implicitDefEqProofs only [go_sem, Nat.reduceEqDiff, Nat.reduceAdd, Nat.reduceLT, Nat.reduceLeDiff, Nat.reduceMul, Nat.reduceBEq, reduceIte, gi5, i5, c9, gi15, i15, c19, gi27, i27, c30]
            · replace h := h; clear hz
              rintro s i
              rw [hR29] at i
              obtain ⟨gi33, i33⟩ := i
              clear hR29
              try dsimp only at h
              cases h
              simp -implicitDefEqProofs only [go_sem, Nat.reduceEqDiff, Nat.reduceAdd, Nat.reduceLT, Nat.reduceLeDiff, Nat.reduceMul, Nat.reduceBEq, reduceIte, gi5, i5, c9, gi15, i15, c19, gi27, i27, gi33, i33]
              rw [hI15]
              simp -implicitDefEqProofs only [go_sem, Nat.reduceEqDiff, Nat.reduceAdd, Nat.reduceLT, Nat.reduceLeDiff, Nat.reduceMul, Nat.reduceBEq, reduceIte, gi5, i5, c9, gi15, i15, c19, gi27, i27, gi33, i33]
        · cases h
          simp -implicitDefEqProofs only [go_sem, Nat.reduceEqDiff, Nat.reduceAdd, Nat.reduceLT, Nat.reduceLeDiff, Nat.reduceMul, Nat.reduceBEq, reduceIte, gi5, i5, c9, gi15, i15, c19]
          rw [hR15]
          refine ⟨rfl, ?_⟩
          simp -implicitDefEqProofs only [go_sem, Nat.reduceEqDiff, Nat.reduceAdd, Nat.reduceLT, Nat.reduceLeDiff, Nat.reduceMul, Nat.reduceBEq, reduceIte, gi5, i5, c9, gi15, i15, c19]
      · clear hL15 hI15
        intro e s hr15
        rw [hR15] at hr15
        clear hR15
        revert h hr15
        generalize z15 = v18
        intro h hr15
        try dsimp only at h hr15
        obtain ⟨rfl, gi34, i34⟩ := hr15
        cases h
        simp -implicitDefEqProofs only [go_sem, Nat.reduceEqDiff, Nat.reduceAdd, Nat.reduceLT, Nat.reduceLeDiff, Nat.reduceMul, Nat.reduceBEq, reduceIte, gi5, i5, c9, gi34, i34]
        rw [hI5]
        simp -implicitDefEqProofs only [go_sem, Nat.reduceEqDiff, Nat.reduceAdd, Nat.reduceLT, Nat.reduceLeDiff, Nat.reduceMul, Nat.reduceBEq, reduceIte, gi5, i5, c9, gi34, i34]
    · cases h
      simp -implicitDefEqProofs only [go_sem, Nat.reduceEqDiff, Nat.reduceAdd, Nat.reduceLT, Nat.reduceLeDiff, Nat.reduceMul, Nat.reduceBEq, reduceIte, gi5, i5, c9]
      rw [hR5]
      refine ⟨rfl, ?_⟩
      simp -implicitDefEqProofs only [go_sem, Nat.reduceEqDiff, Nat.reduceAdd, Nat.reduceLT, Nat.reduceLeDiff, Nat.reduceMul, Nat.reduceBEq, reduceIte, gi5, i5, c9]
  · clear hL5 hI5
    intro e s hr5
    rw [hR5] at hr5
    clear hR5
    revert h hr5
    generalize z5 = v8
    intro h hr5
    try dsimp only at h hr5
    obtain ⟨rfl, gi35, i35⟩ := hr5
    cases h
    subst hQ
    simp -implicitDefEqProofs only [go_sem, Nat.reduceEqDiff, Nat.reduceAdd, Nat.reduceLT, Nat.reduceLeDiff, Nat.reduceMul, Nat.reduceBEq, reduceIte, gi35, i35, Try.results16]
theorem m_ref09_Ends_ev (a0 : TProto) (a1 : Int) (a2 : Int) (r0 : Bool) (h : m_ref09_Ends a0 a1 a2 = some r0) (d : Nat) (G : Heap) : Tel Try.prog TB d 36 [.agg ((cTProto a0).map .p), .p (.int .i64 a1), .p (.int .i64 a2)] G (.p (.bool r0)) G := by
  unfold m_ref09_Ends at h
  refine Tel.intro mix Try.func36 rfl (Nat.le_of_ble_eq_true rfl) {frzAt := fun t => t == 83, pureAt := fun t => t == 7 || t == 9, clean := fun r => if r = 7 then [87, 90] else if r = 11 then [87, 90] else if r = 14 then [87, 90] else if r = 18 then [87, 90] else []} (by kernel_rfl) (by kernel_rfl) ?_
  generalize hQ : callPost _ _ _ _ _ = Q
  obtain ⟨v1, hv1, h⟩ := bs h
  replace hv1 := gis hv1
  rcases ib h with ⟨c2, h⟩ | ⟨c2, h⟩
  · cases h
    subst hQ
    simp -implicitDefEqProofs only [go_sem, Nat.reduceEqDiff, Nat.reduceAdd, Nat.reduceLT, Nat.reduceLeDiff, Nat.reduceMul, Nat.reduceBEq, reduceIte, hv1, c2, Try.results36]
  · rcases ib h with ⟨c3, h⟩ | ⟨c3, h⟩
    · cases h
      subst hQ
      simp -implicitDefEqProofs only [go_sem, Nat.reduceEqDiff, Nat.reduceAdd, Nat.reduceLT, Nat.reduceLeDiff, Nat.reduceMul, Nat.reduceBEq, reduceIte, hv1, c2, c3, Try.results36]
    · simp -implicitDefEqProofs only [go_sem, Nat.reduceEqDiff, Nat.reduceAdd, Nat.reduceLT, Nat.reduceLeDiff, Nat.reduceMul, Nat.reduceBEq, reduceIte, hv1, c2, c3]
      obtain ⟨z8, hL8, h⟩ := bs h
      obtain ⟨I8, hI8⟩ : ∃ I : ((List Int) × Int) → St → Prop, I = fun a s => match a with | (v9, v10) => s.G = fillKey (cut d G) (d + 1) 3 [.box [.p (.str a0.f0), .p (.sl (a0.f1.map cTState)), .p (.sl (a0.f2.map cTMove))]] ∧ s.F 2 = .p (.int .i64 a2) ∧ s.F 3 = .bp (d + 1, 3, 0) 0 ∧ s.F 7 = .p (.sl (v9.map cii64)) ∧ s.F 8 = .p (.int .i64 v10) ∧ True := ⟨_, rfl⟩
      obtain ⟨R8, hR8⟩ : ∃ R : ((Unit) ⊕ (Bool)) → GE → St → Prop, R = fun x e s => match x with | .inl _ => e = .exit 0 ∧ s.G = fillKey (cut d G) (d + 1) 3 [.box [.p (.str a0.f0), .p (.sl (a0.f1.map cTState)), .p (.sl (a0.f2.map cTMove))]] ∧ True | .inr r => e = .ret ∧ (r = r0 → Q .ret s) := ⟨_, rfl⟩
      refine lp (ts := [87, 90]) rfl hL8 I8 R8 ?_ ?_ ?_
      · rw [hI8]
        simp -implicitDefEqProofs only [go_sem, Nat.reduceEqDiff, Nat.reduceAdd, Nat.reduceLT, Nat.reduceLeDiff, Nat.reduceMul, Nat.reduceBEq, reduceIte, hv1, c2, c3]
      · clear h hL8
        rintro ⟨v9, v10⟩ y s h i
        rw [hI8] at i
        obtain ⟨gi8, i8⟩ := i
        replace h : m_ref09_Ends_L0 a2 a0 (v9, v10) = some y := h
        unfold m_ref09_Ends_L0 at h
        rcases ib h with ⟨c11, h⟩ | ⟨c11, h⟩
        · simp -implicitDefEqProofs only [go_sem, Nat.reduceEqDiff, Nat.reduceAdd, Nat.reduceLT, Nat.reduceLeDiff, Nat.reduceMul, Nat.reduceBEq, reduceIte, hv1, c2, c3, gi8, i8, c11]
          obtain ⟨z16, hL16, h⟩ := bs h
          obtain ⟨I16, hI16⟩ : ∃ I : ((List Int) × Int) → St → Prop, I = fun a s => match a with | (v17, v18) => s.G = fillKey (cut d G) (d + 1) 3 [.box [.p (.str a0.f0), .p (.sl (a0.f1.map cTState)), .p (.sl (a0.f2.map cTMove))]] ∧ s.F 2 = .p (.int .i64 a2) ∧ s.F 3 = .bp (d + 1, 3, 0) 0 ∧ s.F 7 = .p (.sl (v9.map cii64)) ∧ s.F 8 = .p (.int .i64 v10) ∧ s.F 9 = .p (.sl (v17.map cii64)) ∧ s.F 10 = .p (.int .i64 v18) ∧ True := ⟨_, rfl⟩
          obtain ⟨R16, hR16⟩ : ∃ R : (((List Int)) ⊕ (Bool)) → GE → St → Prop, R = fun x e s => match x with | .inl v19 => e = .exit 2 ∧ s.G = fillKey (cut d G) (d + 1) 3 [.box [.p (.str a0.f0), .p (.sl (a0.f1.map cTState)), .p (.sl (a0.f2.map cTMove))]] ∧ s.F 2 = .p (.int .i64 a2) ∧ s.F 3 = .bp (d + 1, 3, 0) 0 ∧ s.F 8 = .p (.int .i64 v10) ∧ s.F 9 = .p (.sl (v19.map cii64)) ∧ True | .inr r => e = .ret ∧ (r = r0 → Q .ret s) := ⟨_, rfl⟩
          refine lp (ts := [87, 90]) rfl hL16 I16 R16 ?_ ?_ ?_
          · rw [hI16]
            simp -implicitDefEqProofs only [go_sem, Nat.reduceEqDiff, Nat.reduceAdd, Nat.reduceLT, Nat.reduceLeDiff, Nat.reduceMul, Nat.reduceBEq, reduceIte, hv1, c2, c3, gi8, i8, c11]
          · clear h hL16
            rintro ⟨v17, v18⟩ y s h i
            rw [hI16] at i
            obtain ⟨gi16, i16⟩ := i
            replace h : m_ref09_Ends_L1 v9 a0 (v17, v18) = some y := h
            unfold m_ref09_Ends_L1 at h
            rcases ib h with ⟨c20, h⟩ | ⟨c20, h⟩
            · simp -implicitDefEqProofs only [go_sem, Nat.reduceEqDiff, Nat.reduceAdd, Nat.reduceLT, Nat.reduceLeDiff, Nat.reduceMul, Nat.reduceBEq, reduceIte, hv1, c2, c3, gi8, i8, c11, gi16, i16, c20]
              obtain ⟨z25, hL25, h⟩ := bs h
              obtain ⟨I25, hI25⟩ : ∃ I : ((List Int) × Int) → St → Prop, I = fun a s => match a with | (v26, v27) => s.G = fillKey (cut d G) (d + 1) 3 [.box [.p (.str a0.f0), .p (.sl (a0.f1.map cTState)), .p (.sl (a0.f2.map cTMove))]] ∧ s.F 2 = .p (.int .i64 a2) ∧ s.F 3 = .bp (d + 1, 3, 0) 0 ∧ s.F 7 = .p (.sl (v9.map cii64)) ∧ s.F 8 = .p (.int .i64 v10) ∧ s.F 9 = .p (.sl (v26.map cii64)) ∧ s.F 10 = .p (.int .i64 v18) ∧ s.F 11 = .p (.int .i64 v27) ∧ True := ⟨_, rfl⟩
              obtain ⟨R25, hR25⟩ : ∃ R : (((List Int)) ⊕ (Bool)) → GE → St → Prop, R = fun x e s => match x with | .inl v28 => e = .exit 4 ∧ s.G = fillKey (cut d G) (d + 1) 3 [.box [.p (.str a0.f0), .p (.sl (a0.f1.map cTState)), .p (.sl (a0.f2.map cTMove))]] ∧ s.F 2 = .p (.int .i64 a2) ∧ s.F 3 = .bp (d + 1, 3, 0) 0 ∧ s.F 7 = .p (.sl (v9.map cii64)) ∧ s.F 8 = .p (.int .i64 v10) ∧ s.F 9 = .p (.sl (v28.map cii64)) ∧ s.F 10 = .p (.int .i64 v18) ∧ True | .inr r => e = .ret ∧ (r = r0 → Q .ret s) := ⟨_, rfl⟩
              refine lp (ts := [87, 90]) rfl hL25 I25 R25 ?_ ?_ ?_
              · rw [hI25]
                simp -implicitDefEqProofs only [go_sem, Nat.reduceEqDiff, Nat.reduceAdd, Nat.reduceLT, Nat.reduceLeDiff, Nat.reduceMul, Nat.reduceBEq, reduceIte, hv1, c2, c3, gi8, i8, c11, gi16, i16, c20]
              · clear h hL25
                rintro ⟨v26, v27⟩ y s h i
                rw [hI25] at i
                obtain ⟨gi25, i25⟩ := i
                replace h : m_ref09_Ends_L2 a0 v9 v18 (v26, v27) = some y := h
                unfold m_ref09_Ends_L2 at h
                rcases ib h with ⟨c29, h⟩ | ⟨c29, h⟩
                · obtain ⟨v30, hv30, h⟩ := bs h
                  replace hv30 := gis hv30
                  obtain ⟨v31, hv31, h⟩ := bs h
                  replace hv31 := gis hv31
                  rcases ib h with ⟨c32, h⟩ | ⟨c32, h⟩
                  · cases h
                    simp -implicitDefEqProofs only [go_sem, Nat.reduceEqDiff, Nat.reduceAdd, Nat.reduceLT, Nat.reduceLeDiff, Nat.reduceMul, Nat.reduceBEq, reduceIte, hv1, c2, c3, gi8, i8, c11, gi16, i16, c20, gi25, i25, c29, hv30, hv31, c32]
                    rw [hI25]
                    simp -implicitDefEqProofs only [go_sem, Nat.reduceEqDiff, Nat.reduceAdd, Nat.reduceLT, Nat.reduceLeDiff, Nat.reduceMul, Nat.reduceBEq, reduceIte, hv1, c2, c3, gi8, i8, c11, gi16, i16, c20, gi25, i25, c29, hv30, hv31, c32]
                  · simp -implicitDefEqProofs only [go_sem, Nat.reduceEqDiff, Nat.reduceAdd, Nat.reduceLT, Nat.reduceLeDiff, Nat.reduceMul, Nat.reduceBEq, reduceIte, hv1, c2, c3, gi8, i8, c11, gi16, i16, c20, gi25, i25, c29, hv30, hv31, c32]
                    obtain ⟨z37, hL37, h⟩ := bs h
                    obtain ⟨I37, hI37⟩ : ∃ I : ((List Int) × Int) → St → Prop, I = fun a s => match a with | (v38, v39) => s.G = fillKey (cut d G) (d + 1) 3 [.box [.p (.str a0.f0), .p (.sl (a0.f1.map cTState)), .p (.sl (a0.f2.map cTMove))]] ∧ s.F 2 = .p (.int .i64 a2) ∧ s.F 3 = .bp (d + 1, 3, 0) 0 ∧ s.F 7 = .p (.sl (v9.map cii64)) ∧ s.F 8 = .p (.int .i64 v10) ∧ s.F 9 = .p (.sl (v38.map cii64)) ∧ s.F 10 = .p (.int .i64 v18) ∧ s.F 11 = .p (.int .i64 v27) ∧ s.F 12 = .p (.int .i64 v39) ∧ True := ⟨_, rfl⟩
                    obtain ⟨R37, hR37⟩ : ∃ R : (((List Int)) ⊕ (Bool)) → GE → St → Prop, R = fun x e s => match x with | .inl v40 => e = .exit 6 ∧ s.G = fillKey (cut d G) (d + 1) 3 [.box [.p (.str a0.f0), .p (.sl (a0.f1.map cTState)), .p (.sl (a0.f2.map cTMove))]] ∧ s.F 2 = .p (.int .i64 a2) ∧ s.F 3 = .bp (d + 1, 3, 0) 0 ∧ s.F 7 = .p (.sl (v9.map cii64)) ∧ s.F 8 = .p (.int .i64 v10) ∧ s.F 9 = .p (.sl (v40.map cii64)) ∧ s.F 10 = .p (.int .i64 v18) ∧ s.F 11 = .p (.int .i64 v27) ∧ True | .inr r => e = .ret ∧ (r = r0 → Q .ret s) := ⟨_, rfl⟩
                    refine lp (ts := [87, 90]) rfl hL37 I37 R37 ?_ ?_ ?_
                    · rw [hI37]
                      simp -implicitDefEqProofs only [go_sem, Nat.reduceEqDiff, Nat.reduceAdd, Nat.reduceLT, Nat.reduceLeDiff, Nat.reduceMul, Nat.reduceBEq, reduceIte, hv1, c2, c3, gi8, i8, c11, gi16, i16, c20, gi25, i25, c29, hv30, hv31, c32]
                    · clear h hL37
                      rintro ⟨v38, v39⟩ y s h i
                      rw [hI37] at i
                      obtain ⟨gi37, i37⟩ := i
                      replace h : m_ref09_Ends_L3 v30 a0 (v38, v39) = some y := h
                      unfold m_ref09_Ends_L3 at h
                      rcases ib h with ⟨c41, h⟩ | ⟨c41, h⟩
                      · obtain ⟨v42, hv42, h⟩ := bs h
                        replace hv42 := gis hv42
                        obtain ⟨v43, hv43, h⟩ := bs h
                        replace hv43 := gis hv43
                        rcases ib h with ⟨c44, h⟩ | ⟨c44, h⟩
                        · cases h
                          simp -implicitDefEqProofs only [go_sem, Nat.reduceEqDiff, Nat.reduceAdd, Nat.reduceLT, Nat.reduceLeDiff, Nat.reduceMul, Nat.reduceBEq, reduceIte, hv1, c2, c3, gi8, i8, c11, gi16, i16, c20, gi25, i25, c29, hv30, hv31, c32, gi37, i37, c41, hv42, hv43, c44]
                          rw [hR37]
                          refine ⟨rfl, ?_⟩
                          intro hr
                          subst hr
                          subst hQ
                          simp -implicitDefEqProofs only [go_sem, Nat.reduceEqDiff, Nat.reduceAdd, Nat.reduceLT, Nat.reduceLeDiff, Nat.reduceMul, Nat.reduceBEq, reduceIte, hv1, c2, c3, gi8, i8, c11, gi16, i16, c20, gi25, i25, c29, hv30, hv31, c32, gi37, i37, c41, hv42, hv43, c44, Try.results36]
                        · obtain ⟨r45, hr45, h⟩ := bs h
                          simp -implicitDefEqProofs only [go_sem, Nat.reduceEqDiff, Nat.reduceAdd, Nat.reduceLT, Nat.reduceLeDiff, Nat.reduceMul, Nat.reduceBEq, reduceIte, hv1, c2, c3, gi8, i8, c11, gi16, i16, c20, gi25, i25, c29, hv30, hv31, c32, gi37, i37, c41, hv42, hv43, c44]
                          refine call_frz (r' := .p (.bool r45)) (m_ref09_has_ev v38 v42.f1 r45 hr45 (d + 1) empty) (by simp -implicitDefEqProofs only [go_sem, Nat.reduceEqDiff, Nat.reduceAdd, Nat.reduceLT, Nat.reduceLeDiff, Nat.reduceMul, Nat.reduceBEq, reduceIte, hv1, c2, c3, gi8, i8, c11, gi16, i16, c20, gi25, i25, c29, hv30, hv31, c32, gi37, i37, c41, hv42, hv43, c44]) rfl (by simp -implicitDefEqProofs only [go_sem, Nat.reduceEqDiff, Nat.reduceAdd, Nat.reduceLT, Nat.reduceLeDiff, Nat.reduceMul, Nat.reduceBEq, reduceIte]) (by simp -implicitDefEqProofs only [go_sem, Nat.reduceEqDiff, Nat.reduceAdd, Nat.reduceLT, Nat.reduceLeDiff, Nat.reduceMul, Nat.reduceBEq, reduceIte]) ?_ rfl rfl
                          simp -implicitDefEqProofs only [go_sem, Nat.reduceEqDiff, Nat.reduceAdd, Nat.reduceLT, Nat.reduceLeDiff, Nat.reduceMul, Nat.reduceBEq, reduceIte, hv1, c2, c3, gi8, i8, c11, gi16, i16, c20, gi25, i25, c29, hv30, hv31, c32, gi37, i37, c41, hv42, hv43, c44]
                          obtain ⟨v46, hz, h⟩ := bs h
                          obtain ⟨R49, hR49⟩ : ∃ R : St → Prop, R = fun s => ∃ j47 j48, s.G = fillKey (fillKey (fillKey (cut d G) (d + 1) 3 [.box [.p (.str a0.f0), .p (.sl (a0.f1.map cTState)), .p (.sl (a0.f2.map cTMove))]]) (d + 1) 87 j47) (d + 1) 90 j48 ∧ s.F 2 = .p (.int .i64 a2) ∧ s.F 3 = .bp (d + 1, 3, 0) 0 ∧ s.F 7 = .p (.sl (v9.map cii64)) ∧ s.F 8 = .p (.int .i64 v10) ∧ s.F 9 = .p (.sl (v46.map cii64)) ∧ s.F 10 = .p (.int .i64 v18) ∧ s.F 11 = .p (.int .i64 v27) ∧ s.F 12 = .p (.int .i64 v39) ∧ True := ⟨_, rfl⟩
                          refine cutG R49 ?_ ?_
                          · replace h := hz
                            rcases ib h with ⟨c50, h⟩ | ⟨c50, h⟩
                            · obtain ⟨_, c51, h⟩ := bs h
                              replace c51 := rqs c51
                              simp -implicitDefEqProofs only [go_sem, Nat.reduceEqDiff, Nat.reduceAdd, Nat.reduceLT, Nat.reduceLeDiff, Nat.reduceMul, Nat.reduceBEq, reduceIte, hv1, c2, c3, gi8, i8, c11, gi16, i16, c20, gi25, i25, c29, hv30, hv31, c32, gi37, i37, c41, hv42, hv43, c44, c50, c51]
                              refine append_G (o := none) (ts := [87]) (es := (([] : List Int) : List Int).map cii64) (xs := (v38 : List Int).map cii64) (ho := by simp -implicitDefEqProofs only [go_sem, Nat.reduceEqDiff, Nat.reduceAdd, Nat.reduceLT, Nat.reduceLeDiff, Nat.reduceMul, Nat.reduceBEq, reduceIte]) (hG := by simp -implicitDefEqProofs only [go_sem, Nat.reduceEqDiff, Nat.reduceAdd, Nat.reduceLT, Nat.reduceLeDiff, Nat.reduceMul, Nat.reduceBEq, reduceIte, hv1, c2, c3, gi8, i8, c11, gi16, i16, c20, gi25, i25, c29, hv30, hv31, c32, gi37, i37, c41, hv42, hv43, c44, c50, c51]) (hj := by simp -implicitDefEqProofs only [go_sem, Nat.reduceEqDiff, Nat.reduceAdd, Nat.reduceLT, Nat.reduceLeDiff, Nat.reduceMul, Nat.reduceBEq, reduceIte]) (he := el86) (hx := by simp -implicitDefEqProofs only [go_sem, Nat.reduceEqDiff, Nat.reduceAdd, Nat.reduceLT, Nat.reduceLeDiff, Nat.reduceMul, Nat.reduceBEq, reduceIte, hv1, c2, c3, gi8, i8, c11, gi16, i16, c20, gi25, i25, c29, hv30, hv31, c32, gi37, i37, c41, hv42, hv43, c44, c50, c51]) (h1 := by simp -implicitDefEqProofs only [go_sem, Nat.reduceEqDiff, Nat.reduceAdd, Nat.reduceLT, Nat.reduceLeDiff, Nat.reduceMul, Nat.reduceBEq, reduceIte]) (h2 := by simp -implicitDefEqProofs only [go_sem, Nat.reduceEqDiff, Nat.reduceAdd, Nat.reduceLT, Nat.reduceLeDiff, Nat.reduceMul, Nat.reduceBEq, reduceIte]) (ha := rfl) (hra := rfl) (hb := by simpa using c51) (hbb := by decide) ?_
                              intro o52 ko52
                              obtain ⟨_, c53, h⟩ := bs h
                              replace c53 := rqs c53
                              simp -implicitDefEqProofs only [go_sem, Nat.reduceEqDiff, Nat.reduceAdd, Nat.reduceLT, Nat.reduceLeDiff, Nat.reduceMul, Nat.reduceBEq, reduceIte, hv1, c2, c3, gi8, i8, c11, gi16, i16, c20, gi25, i25, c29, hv30, hv31, c32, gi37, i37, c41, hv42, hv43, c44, c50, c51, ko52, c53]
                              refine append_G (o := o52) (ts := [87, 90]) (es := ((([] : List Int) ++ v38) : List Int).map cii64) (xs := ([v42.f1] : List Int).map cii64) (ho := growOK.sub ko52 (by decide)) (hG := by simp -implicitDefEqProofs only [go_sem, Nat.reduceEqDiff, Nat.reduceAdd, Nat.reduceLT, Nat.reduceLeDiff, Nat.reduceMul, Nat.reduceBEq, reduceIte, hv1, c2, c3, gi8, i8, c11, gi16, i16, c20, gi25, i25, c29, hv30, hv31, c32, gi37, i37, c41, hv42, hv43, c44, c50, c51, ko52, c53, growO_out (t := 90) ko52 (by decide)]) (hj := by simp -implicitDefEqProofs only [go_sem, Nat.reduceEqDiff, Nat.reduceAdd, Nat.reduceLT, Nat.reduceLeDiff, Nat.reduceMul, Nat.reduceBEq, reduceIte]) (he := el86) (hx := by simp -implicitDefEqProofs only [go_sem, Nat.reduceEqDiff, Nat.reduceAdd, Nat.reduceLT, Nat.reduceLeDiff, Nat.reduceMul, Nat.reduceBEq, reduceIte, hv1, c2, c3, gi8, i8, c11, gi16, i16, c20, gi25, i25, c29, hv30, hv31, c32, gi37, i37, c41, hv42, hv43, c44, c50, c51, ko52, c53]) (h1 := by simp -implicitDefEqProofs only [go_sem, Nat.reduceEqDiff, Nat.reduceAdd, Nat.reduceLT, Nat.reduceLeDiff, Nat.reduceMul, Nat.reduceBEq, reduceIte]) (h2 := by simp -implicitDefEqProofs only [go_sem, Nat.reduceEqDiff, Nat.reduceAdd, Nat.reduceLT, Nat.reduceLeDiff, Nat.reduceMul, Nat.reduceBEq, reduceIte]) (ha := rfl) (hra := rfl) (hb := by simpa using c53) (hbb := by decide) ?_
                              intro o54 ko54
                              cases h
                              simp -implicitDefEqProofs only [go_sem, Nat.reduceEqDiff, Nat.reduceAdd, Nat.reduceLT, Nat.reduceLeDiff, Nat.reduceMul, Nat.reduceBEq, reduceIte, hv1, c2, c3, gi8, i8, c11, gi16, i16, c20, gi25, i25, c29, hv30, hv31, c32, gi37, i37, c41, hv42, hv43, c44, c50, c51, ko52, c53, ko54]
                              rw [hR49]
                              refine ⟨growO o54 87 1 (((([] : List Int) ++ v38) ++ ([v42.f1])).map cii64), growO o54 90 1 (((([] : List Int) ++ v38) ++ ([v42.f1])).map cii64), ?_⟩
                              simp -implicitDefEqProofs only [go_sem, Nat.reduceEqDiff, Nat.reduceAdd, Nat.reduceLT, Nat.reduceLeDiff, Nat.reduceMul, Nat.reduceBEq, reduceIte, hv1, c2, c3, gi8, i8, c11, gi16, i16, c20, gi25, i25, c29, hv30, hv31, c32, gi37, i37, c41, hv42, hv43, c44, c50, c51, ko52, c53, ko54]
                            · cases h
                              simp -implicitDefEqProofs only [go_sem, Nat.reduceEqDiff, Nat.reduceAdd, Nat.reduceLT, Nat.reduceLeDiff, Nat.reduceMul, Nat.reduceBEq, reduceIte, hv1, c2, c3, gi8, i8, c11, gi16, i16, c20, gi25, i25, c29, hv30, hv31, c32, gi37, i37, c41, hv42, hv43, c44, c50]
                              rw [hR49]
                              refine ⟨[], [], ?_⟩
                              simp -implicitDefEqProofs only [go_sem, Nat.reduceEqDiff, Nat.reduceAdd, Nat.reduceLT, Nat.reduceLeDiff, Nat.reduceMul, Nat.reduceBEq, reduceIte, hv1, c2, c3, gi8, i8, c11, gi16, i16, c20, gi25, i25, c29, hv30, hv31, c32, gi37, i37, c41, hv42, hv43, c44, c50]
                          · replace h := h; clear hz
                            rintro s i
                            rw [hR49] at i
                            obtain ⟨j47, j48, gi55, i55⟩ := i
                            clear hR49
                            try dsimp only at h
                            cases h
                            simp -implicitDefEqProofs only [go_sem, Nat.reduceEqDiff, Nat.reduceAdd, Nat.reduceLT, Nat.reduceLeDiff, Nat.reduceMul, Nat.reduceBEq, reduceIte, hv1, c2, c3, gi8, i8, c11, gi16, i16, c20, gi25, i25, c29, hv30, hv31, c32, gi37, i37, c41, hv42, hv43, c44, gi55, i55]
                            rw [hI37]
                            simp -implicitDefEqProofs only [go_sem, Nat.reduceEqDiff, Nat.reduceAdd, Nat.reduceLT, Nat.reduceLeDiff, Nat.reduceMul, Nat.reduceBEq, reduceIte, hv1, c2, c3, gi8, i8, c11, gi16, i16, c20, gi25, i25, c29, hv30, hv31, c32, gi37, i37, c41, hv42, hv43, c44, gi55, i55]
                      · cases h
                        simp -implicitDefEqProofs only [go_sem, Nat.reduceEqDiff, Nat.reduceAdd, Nat.reduceLT, Nat.reduceLeDiff, Nat.reduceMul, Nat.reduceBEq, reduceIte, hv1, c2, c3, gi8, i8, c11, gi16, i16, c20, gi25, i25, c29, hv30, hv31, c32, gi37, i37, c41]
                        rw [hR37]
                        refine ⟨rfl, ?_⟩
                        simp -implicitDefEqProofs only [go_sem, Nat.reduceEqDiff, Nat.reduceAdd, Nat.reduceLT, Nat.reduceLeDiff, Nat.reduceMul, Nat.reduceBEq, reduceIte, hv1, c2, c3, gi8, i8, c11, gi16, i16, c20, gi25, i25, c29, hv30, hv31, c32, gi37, i37, c41]
                    · clear hL37 hI37
                      intro e s hr37
                      rw [hR37] at hr37
                      clear hR37
                      rcases z37 with v40 | r
                      · try dsimp only at h hr37
                        obtain ⟨rfl, gi56, i56⟩ := hr37
                        cases h
                        simp -implicitDefEqProofs only [go_sem, Nat.reduceEqDiff, Nat.reduceAdd, Nat.reduceLT, Nat.reduceLeDiff, Nat.reduceMul, Nat.reduceBEq, reduceIte, hv1, c2, c3, gi8, i8, c11, gi16, i16, c20, gi25, i25, c29, hv30, hv31, c32, gi56, i56]
                        rw [hI25]
                        simp -implicitDefEqProofs only [go_sem, Nat.reduceEqDiff, Nat.reduceAdd, Nat.reduceLT, Nat.reduceLeDiff, Nat.reduceMul, Nat.reduceBEq, reduceIte, hv1, c2, c3, gi8, i8, c11, gi16, i16, c20, gi25, i25, c29, hv30, hv31, c32, gi56, i56]
                      · try dsimp only at h hr37
                        obtain ⟨rfl, hr37⟩ := hr37
                        cases h
                        try simp -implicitDefEqProofs only [go_sem, Nat.reduceEqDiff, Nat.reduceAdd, Nat.reduceLT, Nat.reduceLeDiff, Nat.reduceMul, Nat.reduceBEq, reduceIte]
                        rw [hR25]
                        exact ⟨rfl, hr37⟩
                · cases h
                  simp -implicitDefEqProofs only [go_sem, Nat.reduceEqDiff, Nat.reduceAdd, Nat.reduceLT, Nat.reduceLeDiff, Nat.reduceMul, Nat.reduceBEq, reduceIte, hv1, c2, c3, gi8, i8, c11, gi16, i16, c20, gi25, i25, c29]
                  rw [hR25]
                  refine ⟨rfl, ?_⟩
                  simp -implicitDefEqProofs only [go_sem, Nat.reduceEqDiff, Nat.reduceAdd, Nat.reduceLT, Nat.reduceLeDiff, Nat.reduceMul, Nat.reduceBEq, reduceIte, hv1, c2, c3, gi8, i8, c11, gi16, i16, c20, gi25, i25, c29]
              · clear hL25 hI25
                intro e s hr25
                rw [hR25] at hr25
                clear hR25
                rcases z25 with v28 | r
                · try dsimp only at h hr25
                  obtain ⟨rfl, gi57, i57⟩ := hr25
                  cases h
                  simp -implicitDefEqProofs only [go_sem, Nat.reduceEqDiff, Nat.reduceAdd, Nat.reduceLT, Nat.reduceLeDiff, Nat.reduceMul, Nat.reduceBEq, reduceIte, hv1, c2, c3, gi8, i8, c11, gi16, i16, c20, gi57, i57]
                  rw [hI16]
                  simp -implicitDefEqProofs only [go_sem, Nat.reduceEqDiff, Nat.reduceAdd, Nat.reduceLT, Nat.reduceLeDiff, Nat.reduceMul, Nat.reduceBEq, reduceIte, hv1, c2, c3, gi8, i8, c11, gi16, i16, c20, gi57, i57]
                · try dsimp only at h hr25
                  obtain ⟨rfl, hr25⟩ := hr25
                  cases h
                  try simp -implicitDefEqProofs only [go_sem, Nat.reduceEqDiff, Nat.reduceAdd, Nat.reduceLT, Nat.reduceLeDiff, Nat.reduceMul, Nat.reduceBEq, reduceIte]
                  rw [hR16]
                  exact ⟨rfl, hr25⟩
            · cases h
              simp -implicitDefEqProofs only [go_sem, Nat.reduceEqDiff, Nat.reduceAdd, Nat.reduceLT, Nat.reduceLeDiff, Nat.reduceMul, Nat.reduceBEq, reduceIte, hv1, c2, c3, gi8, i8, c11, gi16, i16, c20]
              rw [hR16]
              refine ⟨rfl, ?_⟩
              simp -implicitDefEqProofs only [go_sem, Nat.reduceEqDiff, Nat.reduceAdd, Nat.reduceLT, Nat.reduceLeDiff, Nat.reduceMul, Nat.reduceBEq, reduceIte, hv1, c2, c3, gi8, i8, c11, gi16, i16, c20]
          · clear hL16 hI16
            intro e s hr16
            rw [hR16] at hr16
            clear hR16
            rcases z16 with v19 | r
            · try dsimp only at h hr16
              obtain ⟨rfl, gi58, i58⟩ := hr16
              cases h
              simp -implicitDefEqProofs only [go_sem, Nat.reduceEqDiff, Nat.reduceAdd, Nat.reduceLT, Nat.reduceLeDiff, Nat.reduceMul, Nat.reduceBEq, reduceIte, hv1, c2, c3, gi8, i8, c11, gi58, i58]
              rw [hI8]
              simp -implicitDefEqProofs only [go_sem, Nat.reduceEqDiff, Nat.reduceAdd, Nat.reduceLT, Nat.reduceLeDiff, Nat.reduceMul, Nat.reduceBEq, reduceIte, hv1, c2, c3, gi8, i8, c11, gi58, i58]
            · try dsimp only at h hr16
              obtain ⟨rfl, hr16⟩ := hr16
              cases h
              try simp -implicitDefEqProofs only [go_sem, Nat.reduceEqDiff, Nat.reduceAdd, Nat.reduceLT, Nat.reduceLeDiff, Nat.reduceMul, Nat.reduceBEq, reduceIte]
              rw [hR8]
              exact ⟨rfl, hr16⟩
        · cases h
          simp -implicitDefEqProofs only [go_sem, Nat.reduceEqDiff, Nat.reduceAdd, Nat.reduceLT, Nat.reduceLeDiff, Nat.reduceMul, Nat.reduceBEq, reduceIte, hv1, c2, c3, gi8, i8, c11]
          rw [hR8]
          refine ⟨rfl, ?_⟩
          simp -implicitDefEqProofs only [go_sem, Nat.reduceEqDiff, Nat.reduceAdd, Nat.reduceLT, Nat.reduceLeDiff, Nat.reduceMul, Nat.reduceBEq, reduceIte, hv1, c2, c3, gi8, i8, c11]
      · clear hL8 hI8
        intro e s hr8
        rw [hR8] at hr8
        clear hR8
        rcases z8 with _ | r
        · try dsimp only at h hr8
          obtain ⟨rfl, gi59, i59⟩ := hr8
          cases h
          subst hQ
          simp -implicitDefEqProofs only [go_sem, Nat.reduceEqDiff, Nat.reduceAdd, Nat.reduceLT, Nat.reduceLeDiff, Nat.reduceMul, Nat.reduceBEq, reduceIte, hv1, c2, c3, gi59, i59, Try.results36]
        · try dsimp only at h hr8
          obtain ⟨rfl, hr8⟩ := hr8
          cases h
          try simp -implicitDefEqProofs only [go_sem, Nat.reduceEqDiff, Nat.reduceAdd, Nat.reduceLT, Nat.reduceLeDiff, Nat.reduceMul, Nat.reduceBEq, reduceIte]
          exact hr8 rfl
theorem m_ref09_Wrong_ev (a0 : TProto) (r0 : Int × Int) (h : m_ref09_Wrong a0 = some r0) (d : Nat) (G : Heap) : Tel Try.prog TB d 11 [.agg ((cTProto a0).map .p)] G (.tup [.p (.int .i64 r0.1), .p (.int .i64 r0.2)]) G := by
  unfold m_ref09_Wrong at h
  refine Tel.intro mix Try.func11 rfl (Nat.le_of_ble_eq_true rfl) {frzAt := fun t => t == 63 || t == 72 || t == 102} (by kernel_rfl) (by kernel_rfl) ?_
  generalize hQ : callPost _ _ _ _ _ = Q
  simp -implicitDefEqProofs only [go_sem, Nat.reduceEqDiff, Nat.reduceAdd, Nat.reduceLT, Nat.reduceLeDiff, Nat.reduceMul, Nat.reduceBEq, reduceIte]
  obtain ⟨v1, hz, h⟩ := bs h
  obtain ⟨R2, hR2⟩ : ∃ R : St → Prop, R = fun s => s.G = fillKey (cut d G) (d + 1) 1 [.box [.p (.str a0.f0), .p (.sl (a0.f1.map cTState)), .p (.sl (a0.f2.map cTMove))]] ∧ s.F 1 = .bp (d + 1, 1, 0) 0 ∧ s.F 4 = .p (.int .i64 (a0.f1.length : Int)) ∧ s.F 18 = .p (.bool v1) ∧ True := ⟨_, rfl⟩
  refine cutR R2 ?_ ?_
  · replace h := hz
    rcases ib h with ⟨c3, h⟩ | ⟨c3, h⟩
    · cases h
      simp -implicitDefEqProofs only [go_sem, Nat.reduceEqDiff, Nat.reduceAdd, Nat.reduceLT, Nat.reduceLeDiff, Nat.reduceMul, Nat.reduceBEq, reduceIte, c3]
      rw [hR2]
      simp -implicitDefEqProofs only [go_sem, Nat.reduceEqDiff, Nat.reduceAdd, Nat.reduceLT, Nat.reduceLeDiff, Nat.reduceMul, Nat.reduceBEq, reduceIte, c3]
    · cases h
      simp -implicitDefEqProofs only [go_sem, Nat.reduceEqDiff, Nat.reduceAdd, Nat.reduceLT, Nat.reduceLeDiff, Nat.reduceMul, Nat.reduceBEq, reduceIte, c3]
      rw [hR2]
      simp -implicitDefEqProofs only [go_sem, Nat.reduceEqDiff, Nat.reduceAdd, Nat.reduceLT, Nat.reduceLeDiff, Nat.reduceMul, Nat.reduceBEq, reduceIte, c3]
  · replace h := h; clear hz
    rintro s i
    rw [hR2] at i
    obtain ⟨gi4, i4⟩ := i
    clear hR2
    try dsimp only at h
    rcases ib h with ⟨c5, h⟩ | ⟨c5, h⟩
    · cases h
      subst hQ
      simp -implicitDefEqProofs only [go_sem, Nat.reduceEqDiff, Nat.reduceAdd, Nat.reduceLT, Nat.reduceLeDiff, Nat.reduceMul, Nat.reduceBEq, reduceIte, gi4, i4, c5, Try.results11]
    · simp -implicitDefEqProofs only [go_sem, Nat.reduceEqDiff, Nat.reduceAdd, Nat.reduceLT, Nat.reduceLeDiff, Nat.reduceMul, Nat.reduceBEq, reduceIte, gi4, i4, c5]
      obtain ⟨z8, hL8, h⟩ := bs h
      obtain ⟨I8, hI8⟩ : ∃ I : Int → St → Prop, I = fun v9 s => s.G = fillKey (cut d G) (d + 1) 1 [.box [.p (.str a0.f0), .p (.sl (a0.f1.map cTState)), .p (.sl (a0.f2.map cTMove))]] ∧ s.F 1 = .bp (d + 1, 1, 0) 0 ∧ s.F 4 = .p (.int .i64 (a0.f1.length : Int)) ∧ s.F 5 = .p (.int .i64 v9) ∧ True := ⟨_, rfl⟩
      obtain ⟨R8, hR8⟩ : ∃ R : ((Unit) ⊕ (Int × Int)) → GE → St → Prop, R = fun x e s => match x with | .inl _ => e = .exit 0 ∧ s.G = fillKey (cut d G) (d + 1) 1 [.box [.p (.str a0.f0), .p (.sl (a0.f1.map cTState)), .p (.sl (a0.f2.map cTMove))]] ∧ s.F 1 = .bp (d + 1, 1, 0) 0 ∧ s.F 4 = .p (.int .i64 (a0.f1.length : Int)) ∧ True | .inr r => e = .ret ∧ (r = r0 → Q .ret s) := ⟨_, rfl⟩
      refine lp (ts := []) rfl hL8 I8 R8 ?_ ?_ ?_
      · rw [hI8]
        simp -implicitDefEqProofs only [go_sem, Nat.reduceEqDiff, Nat.reduceAdd, Nat.reduceLT, Nat.reduceLeDiff, Nat.reduceMul, Nat.reduceBEq, reduceIte, gi4, i4, c5]
      · clear h hL8
        rintro v9 y s h i
        rw [hI8] at i
        obtain ⟨gi8, i8⟩ := i
        replace h : m_ref09_Wrong_L0 a0 (v9) = some y := h
        unfold m_ref09_Wrong_L0 at h
        rcases ib h with ⟨c10, h⟩ | ⟨c10, h⟩
        · simp -implicitDefEqProofs only [go_sem, Nat.reduceEqDiff, Nat.reduceAdd, Nat.reduceLT, Nat.reduceLeDiff, Nat.reduceMul, Nat.reduceBEq, reduceIte, gi4, i4, c5, gi8, i8, c10]
          obtain ⟨z13, hL13, h⟩ := bs h
          obtain ⟨I13, hI13⟩ : ∃ I : Int → St → Prop, I = fun v14 s => s.G = fillKey (cut d G) (d + 1) 1 [.box [.p (.str a0.f0), .p (.sl (a0.f1.map cTState)), .p (.sl (a0.f2.map cTMove))]] ∧ s.F 1 = .bp (d + 1, 1, 0) 0 ∧ s.F 4 = .p (.int .i64 (a0.f1.length : Int)) ∧ s.F 5 = .p (.int .i64 v9) ∧ s.F 6 = .p (.int .i64 v14) ∧ True := ⟨_, rfl⟩
          obtain ⟨R13, hR13⟩ : ∃ R : ((Unit) ⊕ (Int × Int)) → GE → St → Prop, R = fun x e s => match x with | .inl _ => e = .exit 2 ∧ s.G = fillKey (cut d G) (d + 1) 1 [.box [.p (.str a0.f0), .p (.sl (a0.f1.map cTState)), .p (.sl (a0.f2.map cTMove))]] ∧ s.F 1 = .bp (d + 1, 1, 0) 0 ∧ s.F 4 = .p (.int .i64 (a0.f1.length : Int)) ∧ s.F 5 = .p (.int .i64 v9) ∧ True | .inr r => e = .ret ∧ (r = r0 → Q .ret s) := ⟨_, rfl⟩
          refine lp (ts := []) rfl hL13 I13 R13 ?_ ?_ ?_
          · rw [hI13]
            simp -implicitDefEqProofs only [go_sem, Nat.reduceEqDiff, Nat.reduceAdd, Nat.reduceLT, Nat.reduceLeDiff, Nat.reduceMul, Nat.reduceBEq, reduceIte, gi4, i4, c5, gi8, i8, c10]
          · clear h hL13
            rintro v14 y s h i
            rw [hI13] at i
            obtain ⟨gi13, i13⟩ := i
            replace h : m_ref09_Wrong_L1 v9 a0 (v14) = some y := h
            unfold m_ref09_Wrong_L1 at h
            rcases ib h with ⟨c15, h⟩ | ⟨c15, h⟩
            · obtain ⟨v16, hv16, h⟩ := bs h
              replace hv16 := gis hv16
              obtain ⟨v17, hv17, h⟩ := bs h
              replace hv17 := gis hv17
              rcases ib h with ⟨c18, h⟩ | ⟨c18, h⟩
              · cases h
                simp -implicitDefEqProofs only [go_sem, Nat.reduceEqDiff, Nat.reduceAdd, Nat.reduceLT, Nat.reduceLeDiff, Nat.reduceMul, Nat.reduceBEq, reduceIte, gi4, i4, c5, gi8, i8, c10, gi13, i13, c15, hv16, hv17, c18]
                rw [hR13]
                refine ⟨rfl, ?_⟩
                intro hr
                subst hr
                subst hQ
                simp -implicitDefEqProofs only [go_sem, Nat.reduceEqDiff, Nat.reduceAdd, Nat.reduceLT, Nat.reduceLeDiff, Nat.reduceMul, Nat.reduceBEq, reduceIte, gi4, i4, c5, gi8, i8, c10, gi13, i13, c15, hv16, hv17, c18, Try.results11]
              · cases h
                simp -implicitDefEqProofs only [go_sem, Nat.reduceEqDiff, Nat.reduceAdd, Nat.reduceLT, Nat.reduceLeDiff, Nat.reduceMul, Nat.reduceBEq, reduceIte, gi4, i4, c5, gi8, i8, c10, gi13, i13, c15, hv16, hv17, c18]
                rw [hI13]
                simp -implicitDefEqProofs only [go_sem, Nat.reduceEqDiff, Nat.reduceAdd, Nat.reduceLT, Nat.reduceLeDiff, Nat.reduceMul, Nat.reduceBEq, reduceIte, gi4, i4, c5, gi8, i8, c10, gi13, i13, c15, hv16, hv17, c18]
            · cases h
              simp -implicitDefEqProofs only [go_sem, Nat.reduceEqDiff, Nat.reduceAdd, Nat.reduceLT, Nat.reduceLeDiff, Nat.reduceMul, Nat.reduceBEq, reduceIte, gi4, i4, c5, gi8, i8, c10, gi13, i13, c15]
              rw [hR13]
              refine ⟨rfl, ?_⟩
              simp -implicitDefEqProofs only [go_sem, Nat.reduceEqDiff, Nat.reduceAdd, Nat.reduceLT, Nat.reduceLeDiff, Nat.reduceMul, Nat.reduceBEq, reduceIte, gi4, i4, c5, gi8, i8, c10, gi13, i13, c15]
          · clear hL13 hI13
            intro e s hr13
            rw [hR13] at hr13
            clear hR13
            rcases z13 with _ | r
            · try dsimp only at h hr13
              obtain ⟨rfl, gi19, i19⟩ := hr13
              cases h
              simp -implicitDefEqProofs only [go_sem, Nat.reduceEqDiff, Nat.reduceAdd, Nat.reduceLT, Nat.reduceLeDiff, Nat.reduceMul, Nat.reduceBEq, reduceIte, gi4, i4, c5, gi8, i8, c10, gi19, i19]
              rw [hI8]
              simp -implicitDefEqProofs only [go_sem, Nat.reduceEqDiff, Nat.reduceAdd, Nat.reduceLT, Nat.reduceLeDiff, Nat.reduceMul, Nat.reduceBEq, reduceIte, gi4, i4, c5, gi8, i8, c10, gi19, i19]
            · try dsimp only at h hr13
              obtain ⟨rfl, hr13⟩ := hr13
              cases h
              try simp -implicitDefEqProofs only [go_sem, Nat.reduceEqDiff, Nat.reduceAdd, Nat.reduceLT, Nat.reduceLeDiff, Nat.reduceMul, Nat.reduceBEq, reduceIte]
              rw [hR8]
              exact ⟨rfl, hr13⟩
        · cases h
          simp -implicitDefEqProofs only [go_sem, Nat.reduceEqDiff, Nat.reduceAdd, Nat.reduceLT, Nat.reduceLeDiff, Nat.reduceMul, Nat.reduceBEq, reduceIte, gi4, i4, c5, gi8, i8, c10]
          rw [hR8]
          refine ⟨rfl, ?_⟩
          simp -implicitDefEqProofs only [go_sem, Nat.reduceEqDiff, Nat.reduceAdd, Nat.reduceLT, Nat.reduceLeDiff, Nat.reduceMul, Nat.reduceBEq, reduceIte, gi4, i4, c5, gi8, i8, c10]
      · clear hL8 hI8
        intro e s hr8
        rw [hR8] at hr8
        clear hR8
        rcases z8 with _ | r
        · try dsimp only at h hr8
          obtain ⟨rfl, gi20, i20⟩ := hr8
          simp -implicitDefEqProofs only [go_sem, Nat.reduceEqDiff, Nat.reduceAdd, Nat.reduceLT, Nat.reduceLeDiff, Nat.reduceMul, Nat.reduceBEq, reduceIte, gi4, i4, c5, gi20, i20]
          obtain ⟨z23, hL23, h⟩ := bs h
          obtain ⟨I23, hI23⟩ : ∃ I : Int → St → Prop, I = fun v24 s => s.G = fillKey (cut d G) (d + 1) 1 [.box [.p (.str a0.f0), .p (.sl (a0.f1.map cTState)), .p (.sl (a0.f2.map cTMove))]] ∧ s.F 1 = .bp (d + 1, 1, 0) 0 ∧ s.F 4 = .p (.int .i64 (a0.f1.length : Int)) ∧ s.F 7 = .p (.int .i64 v24) ∧ True := ⟨_, rfl⟩
          obtain ⟨R23, hR23⟩ : ∃ R : ((Unit) ⊕ (Int × Int)) → GE → St → Prop, R = fun x e s => match x with | .inl _ => e = .exit 4 ∧ s.G = fillKey (cut d G) (d + 1) 1 [.box [.p (.str a0.f0), .p (.sl (a0.f1.map cTState)), .p (.sl (a0.f2.map cTMove))]] ∧ s.F 1 = .bp (d + 1, 1, 0) 0 ∧ s.F 4 = .p (.int .i64 (a0.f1.length : Int)) ∧ True | .inr r => e = .ret ∧ (r = r0 → Q .ret s) := ⟨_, rfl⟩
          refine lp (ts := []) rfl hL23 I23 R23 ?_ ?_ ?_
          · rw [hI23]
            simp -implicitDefEqProofs only [go_sem, Nat.reduceEqDiff, Nat.reduceAdd, Nat.reduceLT, Nat.reduceLeDiff, Nat.reduceMul, Nat.reduceBEq, reduceIte, gi4, i4, c5, gi20, i20]
          · clear h hL23
            rintro v24 y s h i
            rw [hI23] at i
            obtain ⟨gi23, i23⟩ := i
            replace h : m_ref09_Wrong_L2 a0 (v24) = some y := h
            unfold m_ref09_Wrong_L2 at h
            rcases ib h with ⟨c25, h⟩ | ⟨c25, h⟩
            · simp -implicitDefEqProofs only [go_sem, Nat.reduceEqDiff, Nat.reduceAdd, Nat.reduceLT, Nat.reduceLeDiff, Nat.reduceMul, Nat.reduceBEq, reduceIte, gi4, i4, c5, gi20, i20, gi23, i23, c25]
              obtain ⟨z28, hL28, h⟩ := bs h
              obtain ⟨I28, hI28⟩ : ∃ I : Int → St → Prop, I = fun v29 s => s.G = fillKey (cut d G) (d + 1) 1 [.box [.p (.str a0.f0), .p (.sl (a0.f1.map cTState)), .p (.sl (a0.f2.map cTMove))]] ∧ s.F 1 = .bp (d + 1, 1, 0) 0 ∧ s.F 4 = .p (.int .i64 (a0.f1.length : Int)) ∧ s.F 7 = .p (.int .i64 v24) ∧ s.F 8 = .p (.int .i64 v29) ∧ True := ⟨_, rfl⟩
              obtain ⟨R28, hR28⟩ : ∃ R : ((Unit) ⊕ (Int × Int)) → GE → St → Prop, R = fun x e s => match x with | .inl _ => e = .exit 6 ∧ s.G = fillKey (cut d G) (d + 1) 1 [.box [.p (.str a0.f0), .p (.sl (a0.f1.map cTState)), .p (.sl (a0.f2.map cTMove))]] ∧ s.F 1 = .bp (d + 1, 1, 0) 0 ∧ s.F 4 = .p (.int .i64 (a0.f1.length : Int)) ∧ s.F 7 = .p (.int .i64 v24) ∧ True | .inr r => e = .ret ∧ (r = r0 → Q .ret s) := ⟨_, rfl⟩
              refine lp (ts := []) rfl hL28 I28 R28 ?_ ?_ ?_
              · rw [hI28]
                simp -implicitDefEqProofs only [go_sem, Nat.reduceEqDiff, Nat.reduceAdd, Nat.reduceLT, Nat.reduceLeDiff, Nat.reduceMul, Nat.reduceBEq, reduceIte, gi4, i4, c5, gi20, i20, gi23, i23, c25]
              · clear h hL28
                rintro v29 y s h i
                rw [hI28] at i
                obtain ⟨gi28, i28⟩ := i
                replace h : m_ref09_Wrong_L3 a0 v24 (v29) = some y := h
                unfold m_ref09_Wrong_L3 at h
                rcases ib h with ⟨c30, h⟩ | ⟨c30, h⟩
                · simp -implicitDefEqProofs only [go_sem, Nat.reduceEqDiff, Nat.reduceAdd, Nat.reduceLT, Nat.reduceLeDiff, Nat.reduceMul, Nat.reduceBEq, reduceIte, gi4, i4, c5, gi20, i20, gi23, i23, c25, gi28, i28, c30]
                  obtain ⟨v31, hz, h⟩ := bs h
                  obtain ⟨R32, hR32⟩ : ∃ R : St → Prop, R = fun s => s.G = fillKey (cut d G) (d + 1) 1 [.box [.p (.str a0.f0), .p (.sl (a0.f1.map cTState)), .p (.sl (a0.f2.map cTMove))]] ∧ s.F 1 = .bp (d + 1, 1, 0) 0 ∧ s.F 4 = .p (.int .i64 (a0.f1.length : Int)) ∧ s.F 7 = .p (.int .i64 v24) ∧ s.F 8 = .p (.int .i64 v29) ∧ s.F 91 = .p (.bool v31) ∧ True := ⟨_, rfl⟩
                  refine cutR R32 ?_ ?_
                  · replace h := hz
                    rcases ib h with ⟨c33, h⟩ | ⟨c33, h⟩
                    · obtain ⟨v34, hv34, h⟩ := bs h
                      replace hv34 := gis hv34
                      obtain ⟨r35, hr35, h⟩ := bs h
                      simp -implicitDefEqProofs only [go_sem, Nat.reduceEqDiff, Nat.reduceAdd, Nat.reduceLT, Nat.reduceLeDiff, Nat.reduceMul, Nat.reduceBEq, reduceIte, gi4, i4, c5, gi20, i20, gi23, i23, c25, gi28, i28, c30, c33, hv34]
                      refine call_frz (r' := .p (.bool r35)) (m_ref09_fit_ev a0 v34 r35 hr35 (d + 1) empty) (by simp -implicitDefEqProofs only [go_sem, Nat.reduceEqDiff, Nat.reduceAdd, Nat.reduceLT, Nat.reduceLeDiff, Nat.reduceMul, Nat.reduceBEq, reduceIte, gi4, i4, c5, gi20, i20, gi23, i23, c25, gi28, i28, c30, c33, hv34]) rfl (by simp -implicitDefEqProofs only [go_sem, Nat.reduceEqDiff, Nat.reduceAdd, Nat.reduceLT, Nat.reduceLeDiff, Nat.reduceMul, Nat.reduceBEq, reduceIte]) (by simp -implicitDefEqProofs only [go_sem, Nat.reduceEqDiff, Nat.reduceAdd, Nat.reduceLT, Nat.reduceLeDiff, Nat.reduceMul, Nat.reduceBEq, reduceIte]) ?_ rfl rfl
                      rcases ib h with ⟨c36, h⟩ | ⟨c36, h⟩
                      · cases h
                        simp -implicitDefEqProofs only [go_sem, Nat.reduceEqDiff, Nat.reduceAdd, Nat.reduceLT, Nat.reduceLeDiff, Nat.reduceMul, Nat.reduceBEq, reduceIte, gi4, i4, c5, gi20, i20, gi23, i23, c25, gi28, i28, c30, c33, hv34, c36]
                        rw [hR32]
                        simp -implicitDefEqProofs only [go_sem, Nat.reduceEqDiff, Nat.reduceAdd, Nat.reduceLT, Nat.reduceLeDiff, Nat.reduceMul, Nat.reduceBEq, reduceIte, gi4, i4, c5, gi20, i20, gi23, i23, c25, gi28, i28, c30, c33, hv34, c36]
                      · rcases ib h with ⟨c37, h⟩ | ⟨c37, h⟩
                        · obtain ⟨r38, hr38, h⟩ := bs h
                          simp -implicitDefEqProofs only [go_sem, Nat.reduceEqDiff, Nat.reduceAdd, Nat.reduceLT, Nat.reduceLeDiff, Nat.reduceMul, Nat.reduceBEq, reduceIte, gi4, i4, c5, gi20, i20, gi23, i23, c25, gi28, i28, c30, c33, hv34, c36, c37]
                          refine call_frz (r' := .p (.bool r38)) (m_ref09_again_ev a0 v29 r38 hr38 (d + 1) empty) (by simp -implicitDefEqProofs only [go_sem, Nat.reduceEqDiff, Nat.reduceAdd, Nat.reduceLT, Nat.reduceLeDiff, Nat.reduceMul, Nat.reduceBEq, reduceIte, gi4, i4, c5, gi20, i20, gi23, i23, c25, gi28, i28, c30, c33, hv34, c36, c37]) rfl (by simp -implicitDefEqProofs only [go_sem, Nat.reduceEqDiff, Nat.reduceAdd, Nat.reduceLT, Nat.reduceLeDiff, Nat.reduceMul, Nat.reduceBEq, reduceIte]) (by simp -implicitDefEqProofs only [go_sem, Nat.reduceEqDiff, Nat.reduceAdd, Nat.reduceLT, Nat.reduceLeDiff, Nat.reduceMul, Nat.reduceBEq, reduceIte]) ?_ rfl rfl
                          rcases ib h with ⟨c39, h⟩ | ⟨c39, h⟩
                          · cases h
                            simp -implicitDefEqProofs only [go_sem, Nat.reduceEqDiff, Nat.reduceAdd, Nat.reduceLT, Nat.reduceLeDiff, Nat.reduceMul, Nat.reduceBEq, reduceIte, gi4, i4, c5, gi20, i20, gi23, i23, c25, gi28, i28, c30, c33, hv34, c36, c37, c39]
                            rw [hR32]
                            simp -implicitDefEqProofs only [go_sem, Nat.reduceEqDiff, Nat.reduceAdd, Nat.reduceLT, Nat.reduceLeDiff, Nat.reduceMul, Nat.reduceBEq, reduceIte, gi4, i4, c5, gi20, i20, gi23, i23, c25, gi28, i28, c30, c33, hv34, c36, c37, c39]
                          · rcases ib h with ⟨c40, h⟩ | ⟨c40, h⟩
                            · obtain ⟨v41, hv41, h⟩ := bs h
                              replace hv41 := gis hv41
                              cases h
                              simp -implicitDefEqProofs only [go_sem, Nat.reduceEqDiff, Nat.reduceAdd, Nat.reduceLT, Nat.reduceLeDiff, Nat.reduceMul, Nat.reduceBEq, reduceIte, gi4, i4, c5, gi20, i20, gi23, i23, c25, gi28, i28, c30, c33, hv34, c36, c37, c39, c40, hv41]
                              rw [hR32]
                              simp -implicitDefEqProofs only [go_sem, Nat.reduceEqDiff, Nat.reduceAdd, Nat.reduceLT, Nat.reduceLeDiff, Nat.reduceMul, Nat.reduceBEq, reduceIte, gi4, i4, c5, gi20, i20, gi23, i23, c25, gi28, i28, c30, c33, hv34, c36, c37, c39, c40, hv41]
                            · cases h
                              simp -implicitDefEqProofs only [go_sem, Nat.reduceEqDiff, Nat.reduceAdd, Nat.reduceLT, Nat.reduceLeDiff, Nat.reduceMul, Nat.reduceBEq, reduceIte, gi4, i4, c5, gi20, i20, gi23, i23, c25, gi28, i28, c30, c33, hv34, c36, c37, c39, c40]
                              rw [hR32]
                              simp -implicitDefEqProofs only [go_sem, Nat.reduceEqDiff, Nat.reduceAdd, Nat.reduceLT, Nat.reduceLeDiff, Nat.reduceMul, Nat.reduceBEq, reduceIte, gi4, i4, c5, gi20, i20, gi23, i23, c25, gi28, i28, c30, c33, hv34, c36, c37, c39, c40]
                        · rcases ib h with ⟨c42, h⟩ | ⟨c42, h⟩
                          · obtain ⟨v43, hv43, h⟩ := bs h
                            replace hv43 := gis hv43
                            cases h
                            simp -implicitDefEqProofs only [go_sem, Nat.reduceEqDiff, Nat.reduceAdd, Nat.reduceLT, Nat.reduceLeDiff, Nat.reduceMul, Nat.reduceBEq, reduceIte, gi4, i4, c5, gi20, i20, gi23, i23, c25, gi28, i28, c30, c33, hv34, c36, c37, c42, hv43]
                            rw [hR32]
                            simp -implicitDefEqProofs only [go_sem, Nat.reduceEqDiff, Nat.reduceAdd, Nat.reduceLT, Nat.reduceLeDiff, Nat.reduceMul, Nat.reduceBEq, reduceIte, gi4, i4, c5, gi20, i20, gi23, i23, c25, gi28, i28, c30, c33, hv34, c36, c37, c42, hv43]
                          · cases h
                            simp -implicitDefEqProofs only [go_sem, Nat.reduceEqDiff, Nat.reduceAdd, Nat.reduceLT, Nat.reduceLeDiff, Nat.reduceMul, Nat.reduceBEq, reduceIte, gi4, i4, c5, gi20, i20, gi23, i23, c25, gi28, i28, c30, c33, hv34, c36, c37, c42]
                            rw [hR32]
                            simp -implicitDefEqProofs only [go_sem, Nat.reduceEqDiff, Nat.reduceAdd, Nat.reduceLT, Nat.reduceLeDiff, Nat.reduceMul, Nat.reduceBEq, reduceIte, gi4, i4, c5, gi20, i20, gi23, i23, c25, gi28, i28, c30, c33, hv34, c36, c37, c42]
                    · rcases ib h with ⟨c44, h⟩ | ⟨c44, h⟩
                      · obtain ⟨r45, hr45, h⟩ := bs h
                        simp -implicitDefEqProofs only [go_sem, Nat.reduceEqDiff, Nat.reduceAdd, Nat.reduceLT, Nat.reduceLeDiff, Nat.reduceMul, Nat.reduceBEq, reduceIte, gi4, i4, c5, gi20, i20, gi23, i23, c25, gi28, i28, c30, c33, c44]
                        refine call_frz (r' := .p (.bool r45)) (m_ref09_again_ev a0 v29 r45 hr45 (d + 1) empty) (by simp -implicitDefEqProofs only [go_sem, Nat.reduceEqDiff, Nat.reduceAdd, Nat.reduceLT, Nat.reduceLeDiff, Nat.reduceMul, Nat.reduceBEq, reduceIte, gi4, i4, c5, gi20, i20, gi23, i23, c25, gi28, i28, c30, c33, c44]) rfl (by simp -implicitDefEqProofs only [go_sem, Nat.reduceEqDiff, Nat.reduceAdd, Nat.reduceLT, Nat.reduceLeDiff, Nat.reduceMul, Nat.reduceBEq, reduceIte]) (by simp -implicitDefEqProofs only [go_sem, Nat.reduceEqDiff, Nat.reduceAdd, Nat.reduceLT, Nat.reduceLeDiff, Nat.reduceMul, Nat.reduceBEq, reduceIte]) ?_ rfl rfl
                        rcases ib h with ⟨c46, h⟩ | ⟨c46, h⟩
                        · cases h
                          simp -implicitDefEqProofs only [go_sem, Nat.reduceEqDiff, Nat.reduceAdd, Nat.reduceLT, Nat.reduceLeDiff, Nat.reduceMul, Nat.reduceBEq, reduceIte, gi4, i4, c5, gi20, i20, gi23, i23, c25, gi28, i28, c30, c33, c44, c46]
                          rw [hR32]
                          simp -implicitDefEqProofs only [go_sem, Nat.reduceEqDiff, Nat.reduceAdd, Nat.reduceLT, Nat.reduceLeDiff, Nat.reduceMul, Nat.reduceBEq, reduceIte, gi4, i4, c5, gi20, i20, gi23, i23, c25, gi28, i28, c30, c33, c44, c46]
                        · rcases ib h with ⟨c47, h⟩ | ⟨c47, h⟩
                          · obtain ⟨v48, hv48, h⟩ := bs h
                            replace hv48 := gis hv48
                            obtain ⟨v49, hv49, h⟩ := bs h
                            replace hv49 := gis hv49
                            cases h
                            simp -implicitDefEqProofs only [go_sem, Nat.reduceEqDiff, Nat.reduceAdd, Nat.reduceLT, Nat.reduceLeDiff, Nat.reduceMul, Nat.reduceBEq, reduceIte, gi4, i4, c5, gi20, i20, gi23, i23, c25, gi28, i28, c30, c33, c44, c46, c47, hv48, hv49]
                            rw [hR32]
                            simp -implicitDefEqProofs only [go_sem, Nat.reduceEqDiff, Nat.reduceAdd, Nat.reduceLT, Nat.reduceLeDiff, Nat.reduceMul, Nat.reduceBEq, reduceIte, gi4, i4, c5, gi20, i20, gi23, i23, c25, gi28, i28, c30, c33, c44, c46, c47, hv48, hv49]
                          · cases h
                            simp -implicitDefEqProofs only [go_sem, Nat.reduceEqDiff, Nat.reduceAdd, Nat.reduceLT, Nat.reduceLeDiff, Nat.reduceMul, Nat.reduceBEq, reduceIte, gi4, i4, c5, gi20, i20, gi23, i23, c25, gi28, i28, c30, c33, c44, c46, c47]
                            rw [hR32]
                            simp -implicitDefEqProofs only [go_sem, Nat.reduceEqDiff, Nat.reduceAdd, Nat.reduceLT, Nat.reduceLeDiff, Nat.reduceMul, Nat.reduceBEq, reduceIte, gi4, i4, c5, gi20, i20, gi23, i23, c25, gi28, i28, c30, c33, c44, c46, c47]
                      · rcases ib h with ⟨c50, h⟩ | ⟨c50, h⟩
                        · obtain ⟨v51, hv51, h⟩ := bs h
                          replace hv51 := gis hv51
                          obtain ⟨v52, hv52, h⟩ := bs h
                          replace hv52 := gis hv52
                          cases h
                          simp -implicitDefEqProofs only [go_sem, Nat.reduceEqDiff, Nat.reduceAdd, Nat.reduceLT, Nat.reduceLeDiff, Nat.reduceMul, Nat.reduceBEq, reduceIte, gi4, i4, c5, gi20, i20, gi23, i23, c25, gi28, i28, c30, c33, c44, c50, hv51, hv52]
                          rw [hR32]
                          simp -implicitDefEqProofs only [go_sem, Nat.reduceEqDiff, Nat.reduceAdd, Nat.reduceLT, Nat.reduceLeDiff, Nat.reduceMul, Nat.reduceBEq, reduceIte, gi4, i4, c5, gi20, i20, gi23, i23, c25, gi28, i28, c30, c33, c44, c50, hv51, hv52]
                        · cases h
                          simp -implicitDefEqProofs only [go_sem, Nat.reduceEqDiff, Nat.reduceAdd, Nat.reduceLT, Nat.reduceLeDiff, Nat.reduceMul, Nat.reduceBEq, reduceIte, gi4, i4, c5, gi20, i20, gi23, i23, c25, gi28, i28, c30, c33, c44, c50]
                          rw [hR32]
                          simp -implicitDefEqProofs only [go_sem, Nat.reduceEqDiff, Nat.reduceAdd, Nat.reduceLT, Nat.reduceLeDiff, Nat.reduceMul, Nat.reduceBEq, reduceIte, gi4, i4, c5, gi20, i20, gi23, i23, c25, gi28, i28, c30, c33, c44, c50]
                  · replace h := h; clear hz
                    rintro s i
                    rw [hR32] at i
                    obtain ⟨gi53, i53⟩ := i
                    clear hR32
                    try dsimp only at h
                    rcases ib h with ⟨c54, h⟩ | ⟨c54, h⟩
                    · cases h
                      simp -implicitDefEqProofs only [go_sem, Nat.reduceEqDiff, Nat.reduceAdd, Nat.reduceLT, Nat.reduceLeDiff, Nat.reduceMul, Nat.reduceBEq, reduceIte, gi4, i4, c5, gi20, i20, gi23, i23, c25, gi28, i28, c30, gi53, i53, c54]
                      rw [hR28]
                      refine ⟨rfl, ?_⟩
                      intro hr
                      subst hr
                      subst hQ
                      simp -implicitDefEqProofs only [go_sem, Nat.reduceEqDiff, Nat.reduceAdd, Nat.reduceLT, Nat.reduceLeDiff, Nat.reduceMul, Nat.reduceBEq, reduceIte, gi4, i4, c5, gi20, i20, gi23, i23, c25, gi28, i28, c30, gi53, i53, c54, Try.results11]
                    · cases h
                      simp -implicitDefEqProofs only [go_sem, Nat.reduceEqDiff, Nat.reduceAdd, Nat.reduceLT, Nat.reduceLeDiff, Nat.reduceMul, Nat.reduceBEq, reduceIte, gi4, i4, c5, gi20, i20, gi23, i23, c25, gi28, i28, c30, gi53, i53, c54]
                      rw [hI28]
                      simp -implicitDefEqProofs only [go_sem, Nat.reduceEqDiff, Nat.reduceAdd, Nat.reduceLT, Nat.reduceLeDiff, Nat.reduceMul, Nat.reduceBEq, reduceIte, gi4, i4, c5, gi20, i20, gi23, i23, c25, gi28, i28, c30, gi53, i53, c54]
                · cases h
                  simp -implicitDefEqProofs only [go_sem, Nat.reduceEqDiff, Nat.reduceAdd, Nat.reduceLT, Nat.reduceLeDiff, Nat.reduceMul, Nat.reduceBEq, reduceIte, gi4, i4, c5, gi20, i20, gi23, i23, c25, gi28, i28, c30]
                  rw [hR28]
                  refine ⟨rfl, ?_⟩
                  simp -implicitDefEqProofs only [go_sem, Nat.reduceEqDiff, Nat.reduceAdd, Nat.reduceLT, Nat.reduceLeDiff, Nat.reduceMul, Nat.reduceBEq, reduceIte, gi4, i4, c5, gi20, i20, gi23, i23, c25, gi28, i28, c30]
              · clear hL28 hI28
                intro e s hr28
                rw [hR28] at hr28
                clear hR28
                rcases z28 with _ | r
                · try dsimp only at h hr28
                  obtain ⟨rfl, gi55, i55⟩ := hr28
                  cases h
                  simp -implicitDefEqProofs only [go_sem, Nat.reduceEqDiff, Nat.reduceAdd, Nat.reduceLT, Nat.reduceLeDiff, Nat.reduceMul, Nat.reduceBEq, reduceIte, gi4, i4, c5, gi20, i20, gi23, i23, c25, gi55, i55]
                  rw [hI23]
                  simp -implicitDefEqProofs only [go_sem, Nat.reduceEqDiff, Nat.reduceAdd, Nat.reduceLT, Nat.reduceLeDiff, Nat.reduceMul, Nat.reduceBEq, reduceIte, gi4, i4, c5, gi20, i20, gi23, i23, c25, gi55, i55]
                · try dsimp only at h hr28
                  obtain ⟨rfl, hr28⟩ := hr28
                  cases h
                  try simp -implicitDefEqProofs only [go_sem, Nat.reduceEqDiff, Nat.reduceAdd, Nat.reduceLT, Nat.reduceLeDiff, Nat.reduceMul, Nat.reduceBEq, reduceIte]
                  rw [hR23]
                  exact ⟨rfl, hr28⟩
            · cases h
              simp -implicitDefEqProofs only [go_sem, Nat.reduceEqDiff, Nat.reduceAdd, Nat.reduceLT, Nat.reduceLeDiff, Nat.reduceMul, Nat.reduceBEq, reduceIte, gi4, i4, c5, gi20, i20, gi23, i23, c25]
              rw [hR23]
              refine ⟨rfl, ?_⟩
              simp -implicitDefEqProofs only [go_sem, Nat.reduceEqDiff, Nat.reduceAdd, Nat.reduceLT, Nat.reduceLeDiff, Nat.reduceMul, Nat.reduceBEq, reduceIte, gi4, i4, c5, gi20, i20, gi23, i23, c25]
          · clear hL23 hI23
            intro e s hr23
            rw [hR23] at hr23
            clear hR23
            rcases z23 with _ | r
            · try dsimp only at h hr23
              obtain ⟨rfl, gi56, i56⟩ := hr23
              simp -implicitDefEqProofs only [go_sem, Nat.reduceEqDiff, Nat.reduceAdd, Nat.reduceLT, Nat.reduceLeDiff, Nat.reduceMul, Nat.reduceBEq, reduceIte, gi4, i4, c5, gi20, i20, gi56, i56]
              obtain ⟨z59, hL59, h⟩ := bs h
              obtain ⟨I59, hI59⟩ : ∃ I : Int → St → Prop, I = fun v60 s => s.G = fillKey (cut d G) (d + 1) 1 [.box [.p (.str a0.f0), .p (.sl (a0.f1.map cTState)), .p (.sl (a0.f2.map cTMove))]] ∧ s.F 1 = .bp (d + 1, 1, 0) 0 ∧ s.F 4 = .p (.int .i64 (a0.f1.length : Int)) ∧ s.F 9 = .p (.int .i64 v60) ∧ True := ⟨_, rfl⟩
              obtain ⟨R59, hR59⟩ : ∃ R : ((Unit) ⊕ (Int × Int)) → GE → St → Prop, R = fun x e s => match x with | .inl _ => e = .exit 8 ∧ s.G = fillKey (cut d G) (d + 1) 1 [.box [.p (.str a0.f0), .p (.sl (a0.f1.map cTState)), .p (.sl (a0.f2.map cTMove))]] ∧ True | .inr r => e = .ret ∧ (r = r0 → Q .ret s) := ⟨_, rfl⟩
              refine lp (ts := []) rfl hL59 I59 R59 ?_ ?_ ?_
              · rw [hI59]
                simp -implicitDefEqProofs only [go_sem, Nat.reduceEqDiff, Nat.reduceAdd, Nat.reduceLT, Nat.reduceLeDiff, Nat.reduceMul, Nat.reduceBEq, reduceIte, gi4, i4, c5, gi20, i20, gi56, i56]
              · clear h hL59
                rintro v60 y s h i
                rw [hI59] at i
                obtain ⟨gi59, i59⟩ := i
                replace h : m_ref09_Wrong_L4 a0 (v60) = some y := h
                unfold m_ref09_Wrong_L4 at h
                rcases ib h with ⟨c61, h⟩ | ⟨c61, h⟩
                · obtain ⟨r62, hr62, h⟩ := bs h
                  simp -implicitDefEqProofs only [go_sem, Nat.reduceEqDiff, Nat.reduceAdd, Nat.reduceLT, Nat.reduceLeDiff, Nat.reduceMul, Nat.reduceBEq, reduceIte, gi4, i4, c5, gi20, i20, gi56, i56, gi59, i59, c61]
                  refine call_frz (r' := .p (.bool r62)) (m_ref09_Ends_ev a0 v60 (a0.f1.length : Int) r62 hr62 (d + 1) empty) (by simp -implicitDefEqProofs only [go_sem, Nat.reduceEqDiff, Nat.reduceAdd, Nat.reduceLT, Nat.reduceLeDiff, Nat.reduceMul, Nat.reduceBEq, reduceIte, gi4, i4, c5, gi20, i20, gi56, i56, gi59, i59, c61]) rfl (by simp -implicitDefEqProofs only [go_sem, Nat.reduceEqDiff, Nat.reduceAdd, Nat.reduceLT, Nat.reduceLeDiff, Nat.reduceMul, Nat.reduceBEq, reduceIte]) (by simp -implicitDefEqProofs only [go_sem, Nat.reduceEqDiff, Nat.reduceAdd, Nat.reduceLT, Nat.reduceLeDiff, Nat.reduceMul, Nat.reduceBEq, reduceIte]) ?_ rfl rfl
                  rcases ib h with ⟨c63, h⟩ | ⟨c63, h⟩
                  · cases h
                    simp -implicitDefEqProofs only [go_sem, Nat.reduceEqDiff, Nat.reduceAdd, Nat.reduceLT, Nat.reduceLeDiff, Nat.reduceMul, Nat.reduceBEq, reduceIte, gi4, i4, c5, gi20, i20, gi56, i56, gi59, i59, c61, c63]
                    rw [hR59]
                    refine ⟨rfl, ?_⟩
                    intro hr
                    subst hr
                    subst hQ
                    simp -implicitDefEqProofs only [go_sem, Nat.reduceEqDiff, Nat.reduceAdd, Nat.reduceLT, Nat.reduceLeDiff, Nat.reduceMul, Nat.reduceBEq, reduceIte, gi4, i4, c5, gi20, i20, gi56, i56, gi59, i59, c61, c63, Try.results11]
                  · cases h
                    simp -implicitDefEqProofs only [go_sem, Nat.reduceEqDiff, Nat.reduceAdd, Nat.reduceLT, Nat.reduceLeDiff, Nat.reduceMul, Nat.reduceBEq, reduceIte, gi4, i4, c5, gi20, i20, gi56, i56, gi59, i59, c61, c63]
                    rw [hI59]
                    simp -implicitDefEqProofs only [go_sem, Nat.reduceEqDiff, Nat.reduceAdd, Nat.reduceLT, Nat.reduceLeDiff, Nat.reduceMul, Nat.reduceBEq, reduceIte, gi4, i4, c5, gi20, i20, gi56, i56, gi59, i59, c61, c63]
                · cases h
                  simp -implicitDefEqProofs only [go_sem, Nat.reduceEqDiff, Nat.reduceAdd, Nat.reduceLT, Nat.reduceLeDiff, Nat.reduceMul, Nat.reduceBEq, reduceIte, gi4, i4, c5, gi20, i20, gi56, i56, gi59, i59, c61]
                  rw [hR59]
                  refine ⟨rfl, ?_⟩
                  simp -implicitDefEqProofs only [go_sem, Nat.reduceEqDiff, Nat.reduceAdd, Nat.reduceLT, Nat.reduceLeDiff, Nat.reduceMul, Nat.reduceBEq, reduceIte, gi4, i4, c5, gi20, i20, gi56, i56, gi59, i59, c61]
              · clear hL59 hI59
                intro e s hr59
                rw [hR59] at hr59
                clear hR59
                rcases z59 with _ | r
                · try dsimp only at h hr59
                  obtain ⟨rfl, gi64, i64⟩ := hr59
                  cases h
                  subst hQ
                  simp -implicitDefEqProofs only [go_sem, Nat.reduceEqDiff, Nat.reduceAdd, Nat.reduceLT, Nat.reduceLeDiff, Nat.reduceMul, Nat.reduceBEq, reduceIte, gi4, i4, c5, gi20, i20, gi56, i56, gi64, i64, Try.results11]
                · try dsimp only at h hr59
                  obtain ⟨rfl, hr59⟩ := hr59
                  cases h
                  try simp -implicitDefEqProofs only [go_sem, Nat.reduceEqDiff, Nat.reduceAdd, Nat.reduceLT, Nat.reduceLeDiff, Nat.reduceMul, Nat.reduceBEq, reduceIte]
                  exact hr59 rfl
            · try dsimp only at h hr23
              obtain ⟨rfl, hr23⟩ := hr23
              cases h
              try simp -implicitDefEqProofs only [go_sem, Nat.reduceEqDiff, Nat.reduceAdd, Nat.reduceLT, Nat.reduceLeDiff, Nat.reduceMul, Nat.reduceBEq, reduceIte]
              exact hr23 rfl
        · try dsimp only at h hr8
          obtain ⟨rfl, hr8⟩ := hr8
          cases h
          try simp -implicitDefEqProofs only [go_sem, Nat.reduceEqDiff, Nat.reduceAdd, Nat.reduceLT, Nat.reduceLeDiff, Nat.reduceMul, Nat.reduceBEq, reduceIte]
          exact hr8 rfl
theorem m_auto_Auto_Keeps_1_1_ev (a0 : TOut) (u0 : TMove) (r0 : Bool) (h : m_auto_Auto_Keeps_1_1 a0 u0 = some r0) (d : Nat) (G : Heap) : Tel Try.prog TB d 43 [.agg ((cTOut a0).map .p), .ep (cTMove u0) 0] G (.p (.bool r0)) G := by
  unfold m_auto_Auto_Keeps_1_1 at h
  refine Tel.intro mix Try.func43 rfl (Nat.le_of_ble_eq_true rfl) {} (by kernel_rfl) (by kernel_rfl) ?_
  generalize hQ : callPost _ _ _ _ _ = Q
  cases h
  subst hQ
  simp -implicitDefEqProofs only [go_sem, Nat.reduceEqDiff, Nat.reduceAdd, Nat.reduceLT, Nat.reduceLeDiff, Nat.reduceMul, Nat.reduceBEq, reduceIte, Try.results43]
theorem m_auto_Auto_Keeps_1_ev (a0 : TMove) (r0 : Bool) (h : m_auto_Auto_Keeps_1 a0 = some r0) (d : Nat) (G : Heap) : Tel Try.prog TB d 41 [.agg ((cTMove a0).map .p)] G (.p (.bool r0)) G := by
  unfold m_auto_Auto_Keeps_1 at h
  refine Tel.intro mix Try.func41 rfl (Nat.le_of_ble_eq_true rfl) {borAt := fun t => t == 6} (by kernel_rfl) (by kernel_rfl) ?_
  generalize hQ : callPost _ _ _ _ _ = Q
  obtain ⟨r1, hr1, h⟩ := bs h
  simp -implicitDefEqProofs only [go_sem, Nat.reduceEqDiff, Nat.reduceAdd, Nat.reduceLT, Nat.reduceLeDiff, Nat.reduceMul, Nat.reduceBEq, reduceIte]
  refine call_look (m_slices_ContainsFunc_api_Out_ev a0.f2 (fun x0 => m_auto_Auto_Keeps_1_1 x0 a0) 43 [.ep (cTMove a0) 0] (by simp -implicitDefEqProofs only [go_sem, Nat.reduceEqDiff, Nat.reduceAdd, Nat.reduceLT, Nat.reduceLeDiff, Nat.reduceMul, Nat.reduceBEq, reduceIte]) (fun x0 r h d => m_auto_Auto_Keeps_1_1_ev x0 a0 r h d empty) r1 hr1 (d + 1) empty) (by simp -implicitDefEqProofs only [go_sem, Nat.reduceEqDiff, Nat.reduceAdd, Nat.reduceLT, Nat.reduceLeDiff, Nat.reduceMul, Nat.reduceBEq, reduceIte]) (by simp -implicitDefEqProofs only [go_sem, Nat.reduceEqDiff, Nat.reduceAdd, Nat.reduceLT, Nat.reduceLeDiff, Nat.reduceMul, Nat.reduceBEq, reduceIte]) (by simp -implicitDefEqProofs only [go_sem, Nat.reduceEqDiff, Nat.reduceAdd, Nat.reduceLT, Nat.reduceLeDiff, Nat.reduceMul, Nat.reduceBEq, reduceIte]) ?_ rfl
  cases h
  subst hQ
  simp -implicitDefEqProofs only [go_sem, Nat.reduceEqDiff, Nat.reduceAdd, Nat.reduceLT, Nat.reduceLeDiff, Nat.reduceMul, Nat.reduceBEq, reduceIte, Try.results41]
theorem m_auto_Auto_of_ev (a0 : Option TAuto_Auto) (a1 : ByteArray) (a2 : (TMove → Option Bool)) (n2 : FuncId) (q2 : List GV) (hc2 : closeds q2) (hf2 : ∀ x0 r, a2 x0 = some r → ∀ d, Tel Try.prog TB d n2 ([.agg ((cTMove x0).map .p)] ++ q2) empty (.p (.bool r)) empty) (r0 : Int) (h : m_auto_Auto_of a0 a1 a2 = some r0) (d : Nat) (G : Heap) : Tel Try.prog TB d 40 [.p (encP cTAuto_Auto a0), .p (.str a1), .fn n2 q2] G (.p (.int .u32 r0)) G := by
  unfold m_auto_Auto_of at h
  refine Tel.intro mix Try.func40 rfl (Nat.le_of_ble_eq_true rfl) {frzAt := fun t => t == 27, clean := fun r => if r = 3 then [9] else []} (by kernel_rfl) (by kernel_rfl) ?_
  generalize hQ : callPost _ _ _ _ _ = Q
  obtain ⟨v1, hv1, h⟩ := bs h
  simp -implicitDefEqProofs only [go_sem, Nat.reduceEqDiff, Nat.reduceAdd, Nat.reduceLT, Nat.reduceLeDiff, Nat.reduceMul, Nat.reduceBEq, reduceIte, hv1]
  obtain ⟨z6, hL6, h⟩ := bs h
  obtain ⟨I6, hI6⟩ : ∃ I : (Int × Int) → St → Prop, I = fun a s => match a with | (v7, v8) => s.G = cut d G ∧ s.F 1 = .p (.str a1) ∧ s.F 2 = .fn n2 q2 ∧ s.F 7 = .p (.int .u32 v7) ∧ s.F 14 = .p (.sl (v1.f0.f2.map cTMove)) ∧ s.F 15 = .p (.int .i64 (v1.f0.f2.length : Int)) ∧ s.F 16 = .p (.int .i64 v8) ∧ True := ⟨_, rfl⟩
  obtain ⟨R6, hR6⟩ : ∃ R : (Int) → GE → St → Prop, R = fun v9 e s => e = .exit 0 ∧ s.G = cut d G ∧ s.F 7 = .p (.int .u32 v9) ∧ True := ⟨_, rfl⟩
  refine lp (ts := [9]) rfl hL6 I6 R6 ?_ ?_ ?_
  · rw [hI6]
    simp -implicitDefEqProofs only [go_sem, Nat.reduceEqDiff, Nat.reduceAdd, Nat.reduceLT, Nat.reduceLeDiff, Nat.reduceMul, Nat.reduceBEq, reduceIte, hv1, poisons_closed (d := d + 1) (ts := [9]) _ hc2]
  · clear h hL6
    rintro ⟨v7, v8⟩ y s h i
    rw [hI6] at i
    obtain ⟨gi6, i6⟩ := i
    replace h : m_auto_Auto_of_L0 v1 a1 a2 (v7, v8) = some y := h
    unfold m_auto_Auto_of_L0 at h
    rcases ib h with ⟨c10, h⟩ | ⟨c10, h⟩
    · obtain ⟨v11, hv11, h⟩ := bs h
      replace hv11 := gis hv11
      simp -implicitDefEqProofs only [go_sem, Nat.reduceEqDiff, Nat.reduceAdd, Nat.reduceLT, Nat.reduceLeDiff, Nat.reduceMul, Nat.reduceBEq, reduceIte, hv1, gi6, i6, c10, hv11]
      obtain ⟨v12, hz, h⟩ := bs h
      obtain ⟨R13, hR13⟩ : ∃ R : St → Prop, R = fun s => s.G = fillKey (cut d G) (d + 1) 9 [.box [.p (.str v11.f0), .p (.int .i64 v11.f1), .p (.sl (v11.f2.map cTOut))]] ∧ s.F 1 = .p (.str a1) ∧ s.F 2 = .fn n2 q2 ∧ s.F 7 = .p (.int .u32 v7) ∧ s.F 9 = .bp (d + 1, 9, 0) 0 ∧ s.F 14 = .p (.sl (v1.f0.f2.map cTMove)) ∧ s.F 15 = .p (.int .i64 (v1.f0.f2.length : Int)) ∧ s.F 16 = .p (.int .i64 v8) ∧ s.F 28 = .p (.bool v12) ∧ True := ⟨_, rfl⟩
      refine cutR R13 ?_ ?_
      · replace h := hz
        rcases ib h with ⟨c14, h⟩ | ⟨c14, h⟩
        · obtain ⟨r15, hr15, h⟩ := bs h
          simp -implicitDefEqProofs only [go_sem, Nat.reduceEqDiff, Nat.reduceAdd, Nat.reduceLT, Nat.reduceLeDiff, Nat.reduceMul, Nat.reduceBEq, reduceIte, hv1, gi6, i6, c10, hv11, c14]
          refine call_frz (r' := .p (.bool r15)) (hf2 v11 r15 hr15 (d + 1)) (by simp -implicitDefEqProofs only [go_sem, Nat.reduceEqDiff, Nat.reduceAdd, Nat.reduceLT, Nat.reduceLeDiff, Nat.reduceMul, Nat.reduceBEq, reduceIte, hv1, gi6, i6, c10, hv11, c14]) rfl (by simp -implicitDefEqProofs only [go_sem, Nat.reduceEqDiff, Nat.reduceAdd, Nat.reduceLT, Nat.reduceLeDiff, Nat.reduceMul, Nat.reduceBEq, reduceIte, hc2]) (by simp -implicitDefEqProofs only [go_sem, Nat.reduceEqDiff, Nat.reduceAdd, Nat.reduceLT, Nat.reduceLeDiff, Nat.reduceMul, Nat.reduceBEq, reduceIte]) ?_ rfl rfl
          cases h
          simp -implicitDefEqProofs only [go_sem, Nat.reduceEqDiff, Nat.reduceAdd, Nat.reduceLT, Nat.reduceLeDiff, Nat.reduceMul, Nat.reduceBEq, reduceIte, hv1, gi6, i6, c10, hv11, c14]
          rw [hR13]
          simp -implicitDefEqProofs only [go_sem, Nat.reduceEqDiff, Nat.reduceAdd, Nat.reduceLT, Nat.reduceLeDiff, Nat.reduceMul, Nat.reduceBEq, reduceIte, hv1, gi6, i6, c10, hv11, c14]
        · cases h
          simp -implicitDefEqProofs only [go_sem, Nat.reduceEqDiff, Nat.reduceAdd, Nat.reduceLT, Nat.reduceLeDiff, Nat.reduceMul, Nat.reduceBEq, reduceIte, hv1, gi6, i6, c10, hv11, c14]
          rw [hR13]
          simp -implicitDefEqProofs only [go_sem, Nat.reduceEqDiff, Nat.reduceAdd, Nat.reduceLT, Nat.reduceLeDiff, Nat.reduceMul, Nat.reduceBEq, reduceIte, hv1, gi6, i6, c10, hv11, c14]
      · replace h := h; clear hz
        rintro s i
        rw [hR13] at i
        obtain ⟨gi16, i16⟩ := i
        clear hR13
        try dsimp only at h
        simp -implicitDefEqProofs only [go_sem, Nat.reduceEqDiff, Nat.reduceAdd, Nat.reduceLT, Nat.reduceLeDiff, Nat.reduceMul, Nat.reduceBEq, reduceIte, hv1, gi6, i6, c10, hv11, gi16, i16]
        obtain ⟨v17, hz, h⟩ := bs h
        obtain ⟨R18, hR18⟩ : ∃ R : St → Prop, R = fun s => s.G = fillKey (cut d G) (d + 1) 9 [.box [.p (.str v11.f0), .p (.int .i64 v11.f1), .p (.sl (v11.f2.map cTOut))]] ∧ s.F 1 = .p (.str a1) ∧ s.F 2 = .fn n2 q2 ∧ s.F 7 = .p (.int .u32 v17) ∧ s.F 14 = .p (.sl (v1.f0.f2.map cTMove)) ∧ s.F 15 = .p (.int .i64 (v1.f0.f2.length : Int)) ∧ s.F 16 = .p (.int .i64 v8) ∧ True := ⟨_, rfl⟩
        refine cutG R18 ?_ ?_
        · replace h := hz
          rcases ib h with ⟨c19, h⟩ | ⟨c19, h⟩
          · obtain ⟨_, c20, h⟩ := bs h
            replace c20 := rqs c20
            cases h
            simp -implicitDefEqProofs only [go_sem, Nat.reduceEqDiff, Nat.reduceAdd, Nat.reduceLT, Nat.reduceLeDiff, Nat.reduceMul, Nat.reduceBEq, reduceIte, hv1, gi6, i6, c10, hv11, gi16, i16, c19, c20]
            rw [hR18]
            simp -implicitDefEqProofs only [go_sem, Nat.reduceEqDiff, Nat.reduceAdd, Nat.reduceLT, Nat.reduceLeDiff, Nat.reduceMul, Nat.reduceBEq, reduceIte, hv1, gi6, i6, c10, hv11, gi16, i16, c19, c20]
          · cases h
            simp -implicitDefEqProofs only [go_sem, Nat.reduceEqDiff, Nat.reduceAdd, Nat.reduceLT, Nat.reduceLeDiff, Nat.reduceMul, Nat.reduceBEq, reduceIte, hv1, gi6, i6, c10, hv11, gi16, i16, c19]
            rw [hR18]
            simp -implicitDefEqProofs only [go_sem, Nat.reduceEqDiff, Nat.reduceAdd, Nat.reduceLT, Nat.reduceLeDiff, Nat.reduceMul, Nat.reduceBEq, reduceIte, hv1, gi6, i6, c10, hv11, gi16, i16, c19]
        · replace h := h; clear hz
          rintro s i
          rw [hR18] at i
          obtain ⟨gi21, i21⟩ := i
          clear hR18
          try dsimp only at h
          cases h
          simp -implicitDefEqProofs only [go_sem, Nat.reduceEqDiff, Nat.reduceAdd, Nat.reduceLT, Nat.reduceLeDiff, Nat.reduceMul, Nat.reduceBEq, reduceIte, hv1, gi6, i6, c10, hv11, gi16, i16, gi21, i21]
          rw [hI6]
          simp -implicitDefEqProofs only [go_sem, Nat.reduceEqDiff, Nat.reduceAdd, Nat.reduceLT, Nat.reduceLeDiff, Nat.reduceMul, Nat.reduceBEq, reduceIte, hv1, gi6, i6, c10, hv11, gi16, i16, gi21, i21, poisons_closed (d := d + 1) (ts := [9]) _ hc2]
    · cases h
      simp -implicitDefEqProofs only [go_sem, Nat.reduceEqDiff, Nat.reduceAdd, Nat.reduceLT, Nat.reduceLeDiff, Nat.reduceMul, Nat.reduceBEq, reduceIte, hv1, gi6, i6, c10]
      rw [hR6]
      refine ⟨rfl, ?_⟩
      simp -implicitDefEqProofs only [go_sem, Nat.reduceEqDiff, Nat.reduceAdd, Nat.reduceLT, Nat.reduceLeDiff, Nat.reduceMul, Nat.reduceBEq, reduceIte, hv1, gi6, i6, c10]
  · clear hL6 hI6
    intro e s hr6
    rw [hR6] at hr6
    clear hR6
    revert h hr6
    generalize z6 = v9
    intro h hr6
    try dsimp only at h hr6
    obtain ⟨rfl, gi22, i22⟩ := hr6
    cases h
    subst hQ
    simp -implicitDefEqProofs only [go_sem, Nat.reduceEqDiff, Nat.reduceAdd, Nat.reduceLT, Nat.reduceLeDiff, Nat.reduceMul, Nat.reduceBEq, reduceIte, hv1, gi22, i22, Try.results40]
theorem m_auto_Auto_Keeps_ev (a0 : Option TAuto_Auto) (a1 : ByteArray) (r0 : Int) (h : m_auto_Auto_Keeps a0 a1 = some r0) (d : Nat) (G : Heap) : Tel Try.prog TB d 18 [.p (encP cTAuto_Auto a0), .p (.str a1)] G (.p (.int .u32 r0)) G := by
  unfold m_auto_Auto_Keeps at h
  refine Tel.intro mix Try.func18 rfl (Nat.le_of_ble_eq_true rfl) {frzAt := fun t => t == 7} (by kernel_rfl) (by kernel_rfl) ?_
  generalize hQ : callPost _ _ _ _ _ = Q
  obtain ⟨r1, hr1, h⟩ := bs h
  simp -implicitDefEqProofs only [go_sem, Nat.reduceEqDiff, Nat.reduceAdd, Nat.reduceLT, Nat.reduceLeDiff, Nat.reduceMul, Nat.reduceBEq, reduceIte]
  refine call_frz (r' := .p (.int .u32 r1)) (m_auto_Auto_of_ev a0 a1 (fun x0 => m_auto_Auto_Keeps_1 x0) 41 [] (by simp -implicitDefEqProofs only [go_sem, Nat.reduceEqDiff, Nat.reduceAdd, Nat.reduceLT, Nat.reduceLeDiff, Nat.reduceMul, Nat.reduceBEq, reduceIte]) (fun x0 r h d => m_auto_Auto_Keeps_1_ev x0 r h d empty) r1 hr1 (d + 1) empty) (by simp -implicitDefEqProofs only [go_sem, Nat.reduceEqDiff, Nat.reduceAdd, Nat.reduceLT, Nat.reduceLeDiff, Nat.reduceMul, Nat.reduceBEq, reduceIte]) rfl (by simp -implicitDefEqProofs only [go_sem, Nat.reduceEqDiff, Nat.reduceAdd, Nat.reduceLT, Nat.reduceLeDiff, Nat.reduceMul, Nat.reduceBEq, reduceIte]) (by simp -implicitDefEqProofs only [go_sem, Nat.reduceEqDiff, Nat.reduceAdd, Nat.reduceLT, Nat.reduceLeDiff, Nat.reduceMul, Nat.reduceBEq, reduceIte]) ?_ rfl rfl
  cases h
  subst hQ
  simp -implicitDefEqProofs only [go_sem, Nat.reduceEqDiff, Nat.reduceAdd, Nat.reduceLT, Nat.reduceLeDiff, Nat.reduceMul, Nat.reduceBEq, reduceIte, Try.results18]
theorem m_auto_Auto_Enabled_1_ev (a0 : TMove) (r0 : Bool) (h : m_auto_Auto_Enabled_1 a0 = some r0) (d : Nat) (G : Heap) : Tel Try.prog TB d 44 [.agg ((cTMove a0).map .p)] G (.p (.bool r0)) G := by
  unfold m_auto_Auto_Enabled_1 at h
  refine Tel.intro mix Try.func44 rfl (Nat.le_of_ble_eq_true rfl) {} (by kernel_rfl) (by kernel_rfl) ?_
  generalize hQ : callPost _ _ _ _ _ = Q
  cases h
  subst hQ
  simp -implicitDefEqProofs only [go_sem, Nat.reduceEqDiff, Nat.reduceAdd, Nat.reduceLT, Nat.reduceLeDiff, Nat.reduceMul, Nat.reduceBEq, reduceIte, Try.results44]
theorem m_auto_Auto_Enabled_ev (a0 : Option TAuto_Auto) (a1 : ByteArray) (r0 : Int) (h : m_auto_Auto_Enabled a0 a1 = some r0) (d : Nat) (G : Heap) : Tel Try.prog TB d 19 [.p (encP cTAuto_Auto a0), .p (.str a1)] G (.p (.int .u32 r0)) G := by
  unfold m_auto_Auto_Enabled at h
  refine Tel.intro mix Try.func19 rfl (Nat.le_of_ble_eq_true rfl) {frzAt := fun t => t == 7} (by kernel_rfl) (by kernel_rfl) ?_
  generalize hQ : callPost _ _ _ _ _ = Q
  obtain ⟨r1, hr1, h⟩ := bs h
  simp -implicitDefEqProofs only [go_sem, Nat.reduceEqDiff, Nat.reduceAdd, Nat.reduceLT, Nat.reduceLeDiff, Nat.reduceMul, Nat.reduceBEq, reduceIte]
  refine call_frz (r' := .p (.int .u32 r1)) (m_auto_Auto_of_ev a0 a1 (fun x0 => m_auto_Auto_Enabled_1 x0) 44 [] (by simp -implicitDefEqProofs only [go_sem, Nat.reduceEqDiff, Nat.reduceAdd, Nat.reduceLT, Nat.reduceLeDiff, Nat.reduceMul, Nat.reduceBEq, reduceIte]) (fun x0 r h d => m_auto_Auto_Enabled_1_ev x0 r h d empty) r1 hr1 (d + 1) empty) (by simp -implicitDefEqProofs only [go_sem, Nat.reduceEqDiff, Nat.reduceAdd, Nat.reduceLT, Nat.reduceLeDiff, Nat.reduceMul, Nat.reduceBEq, reduceIte]) rfl (by simp -implicitDefEqProofs only [go_sem, Nat.reduceEqDiff, Nat.reduceAdd, Nat.reduceLT, Nat.reduceLeDiff, Nat.reduceMul, Nat.reduceBEq, reduceIte]) (by simp -implicitDefEqProofs only [go_sem, Nat.reduceEqDiff, Nat.reduceAdd, Nat.reduceLT, Nat.reduceLeDiff, Nat.reduceMul, Nat.reduceBEq, reduceIte]) ?_ rfl rfl
  cases h
  subst hQ
  simp -implicitDefEqProofs only [go_sem, Nat.reduceEqDiff, Nat.reduceAdd, Nat.reduceLT, Nat.reduceLeDiff, Nat.reduceMul, Nat.reduceBEq, reduceIte, Try.results19]
theorem m_auto_Auto_Finals_ev (a0 : Option TAuto_Auto) (r0 : Int) (h : m_auto_Auto_Finals a0 = some r0) (d : Nat) (G : Heap) : Tel Try.prog TB d 17 [.p (encP cTAuto_Auto a0)] G (.p (.int .u32 r0)) G := by
  unfold m_auto_Auto_Finals at h
  refine Tel.intro mix Try.func17 rfl (Nat.le_of_ble_eq_true rfl) {frzAt := fun t => t == 7} (by kernel_rfl) (by kernel_rfl) ?_
  generalize hQ : callPost _ _ _ _ _ = Q
  obtain ⟨v1, hv1, h⟩ := bs h
  obtain ⟨r2, hr2, h⟩ := bs h
  simp -implicitDefEqProofs only [go_sem, Nat.reduceEqDiff, Nat.reduceAdd, Nat.reduceLT, Nat.reduceLeDiff, Nat.reduceMul, Nat.reduceBEq, reduceIte, hv1]
  refine call_frz (r' := .p (.int .u32 r2)) (m_auto_finals_ev v1.f0 r2 hr2 (d + 1) empty) (by simp -implicitDefEqProofs only [go_sem, Nat.reduceEqDiff, Nat.reduceAdd, Nat.reduceLT, Nat.reduceLeDiff, Nat.reduceMul, Nat.reduceBEq, reduceIte, hv1]) rfl (by simp -implicitDefEqProofs only [go_sem, Nat.reduceEqDiff, Nat.reduceAdd, Nat.reduceLT, Nat.reduceLeDiff, Nat.reduceMul, Nat.reduceBEq, reduceIte]) (by simp -implicitDefEqProofs only [go_sem, Nat.reduceEqDiff, Nat.reduceAdd, Nat.reduceLT, Nat.reduceLeDiff, Nat.reduceMul, Nat.reduceBEq, reduceIte]) ?_ rfl rfl
  cases h
  subst hQ
  simp -implicitDefEqProofs only [go_sem, Nat.reduceEqDiff, Nat.reduceAdd, Nat.reduceLT, Nat.reduceLeDiff, Nat.reduceMul, Nat.reduceBEq, reduceIte, hv1, Try.results17]
theorem m_auto_Auto_Step_ev (a0 : Option TAuto_Auto) (a1 : Int) (a2 : ByteArray) (a3 : ByteArray) (r0 : Int) (h : m_auto_Auto_Step a0 a1 a2 a3 = some r0) (d : Nat) (G : Heap) : Tel Try.prog TB d 15 [.p (encP cTAuto_Auto a0), .p (.int .u32 a1), .p (.str a2), .p (.str a3)] G (.p (.int .u32 r0)) G := by
  unfold m_auto_Auto_Step at h
  refine Tel.intro mix Try.func15 rfl (Nat.le_of_ble_eq_true rfl) {clean := fun r => if r = 3 then [11, 13] else if r = 7 then [13] else []} (by kernel_rfl) (by kernel_rfl) ?_
  generalize hQ : callPost _ _ _ _ _ = Q
  obtain ⟨v1, hv1, h⟩ := bs h
  simp -implicitDefEqProofs only [go_sem, Nat.reduceEqDiff, Nat.reduceAdd, Nat.reduceLT, Nat.reduceLeDiff, Nat.reduceMul, Nat.reduceBEq, reduceIte, hv1]
  obtain ⟨z6, hL6, h⟩ := bs h
  obtain ⟨I6, hI6⟩ : ∃ I : (Int × Int) → St → Prop, I = fun a s => match a with | (v7, v8) => s.G = cut d G ∧ s.F 1 = .p (.int .u32 a1) ∧ s.F 2 = .p (.str a2) ∧ s.F 3 = .p (.str a3) ∧ s.F 9 = .p (.int .u32 v7) ∧ s.F 18 = .p (.sl (v1.f0.f2.map cTMove)) ∧ s.F 19 = .p (.int .i64 (v1.f0.f2.length : Int)) ∧ s.F 20 = .p (.int .i64 v8) ∧ True := ⟨_, rfl⟩
  obtain ⟨R6, hR6⟩ : ∃ R : (Int) → GE → St → Prop, R = fun v9 e s => e = .exit 0 ∧ s.G = cut d G ∧ s.F 9 = .p (.int .u32 v9) ∧ True := ⟨_, rfl⟩
  refine lp (ts := [11, 13]) rfl hL6 I6 R6 ?_ ?_ ?_
  · rw [hI6]
    simp -implicitDefEqProofs only [go_sem, Nat.reduceEqDiff, Nat.reduceAdd, Nat.reduceLT, Nat.reduceLeDiff, Nat.reduceMul, Nat.reduceBEq, reduceIte, hv1]
  · clear h hL6
    rintro ⟨v7, v8⟩ y s h i
    rw [hI6] at i
    obtain ⟨gi6, i6⟩ := i
    replace h : m_auto_Auto_Step_L0 v1 a2 a1 a3 (v7, v8) = some y := h
    unfold m_auto_Auto_Step_L0 at h
    rcases ib h with ⟨c10, h⟩ | ⟨c10, h⟩
    · obtain ⟨v11, hv11, h⟩ := bs h
      replace hv11 := gis hv11
      simp -implicitDefEqProofs only [go_sem, Nat.reduceEqDiff, Nat.reduceAdd, Nat.reduceLT, Nat.reduceLeDiff, Nat.reduceMul, Nat.reduceBEq, reduceIte, hv1, gi6, i6, c10, hv11]
      obtain ⟨v12, hz, h⟩ := bs h
      obtain ⟨R13, hR13⟩ : ∃ R : St → Prop, R = fun s => s.G = fillKey (cut d G) (d + 1) 11 [.box [.p (.str v11.f0), .p (.int .i64 v11.f1), .p (.sl (v11.f2.map cTOut))]] ∧ s.F 1 = .p (.int .u32 a1) ∧ s.F 2 = .p (.str a2) ∧ s.F 3 = .p (.str a3) ∧ s.F 9 = .p (.int .u32 v7) ∧ s.F 11 = .bp (d + 1, 11, 0) 0 ∧ s.F 18 = .p (.sl (v1.f0.f2.map cTMove)) ∧ s.F 19 = .p (.int .i64 (v1.f0.f2.length : Int)) ∧ s.F 20 = .p (.int .i64 v8) ∧ s.F 35 = .p (.bool v12) ∧ True := ⟨_, rfl⟩
      refine cutR R13 ?_ ?_
      · replace h := hz
        rcases ib h with ⟨c14, h⟩ | ⟨c14, h⟩
        · cases h
          simp -implicitDefEqProofs only [go_sem, Nat.reduceEqDiff, Nat.reduceAdd, Nat.reduceLT, Nat.reduceLeDiff, Nat.reduceMul, Nat.reduceBEq, reduceIte, hv1, gi6, i6, c10, hv11, c14]
          rw [hR13]
          simp -implicitDefEqProofs only [go_sem, Nat.reduceEqDiff, Nat.reduceAdd, Nat.reduceLT, Nat.reduceLeDiff, Nat.reduceMul, Nat.reduceBEq, reduceIte, hv1, gi6, i6, c10, hv11, c14]
        · obtain ⟨_, c15, h⟩ := bs h
          replace c15 := rqs c15
          cases h
          simp -implicitDefEqProofs only [go_sem, Nat.reduceEqDiff, Nat.reduceAdd, Nat.reduceLT, Nat.reduceLeDiff, Nat.reduceMul, Nat.reduceBEq, reduceIte, hv1, gi6, i6, c10, hv11, c14, c15]
          rw [hR13]
          simp -implicitDefEqProofs only [go_sem, Nat.reduceEqDiff, Nat.reduceAdd, Nat.reduceLT, Nat.reduceLeDiff, Nat.reduceMul, Nat.reduceBEq, reduceIte, hv1, gi6, i6, c10, hv11, c14, c15]
      · replace h := h; clear hz
        rintro s i
        rw [hR13] at i
        obtain ⟨gi16, i16⟩ := i
        clear hR13
        try dsimp only at h
        rcases ib h with ⟨c17, h⟩ | ⟨c17, h⟩
        · cases h
          simp -implicitDefEqProofs only [go_sem, Nat.reduceEqDiff, Nat.reduceAdd, Nat.reduceLT, Nat.reduceLeDiff, Nat.reduceMul, Nat.reduceBEq, reduceIte, hv1, gi6, i6, c10, hv11, gi16, i16, c17]
          rw [hI6]
          simp -implicitDefEqProofs only [go_sem, Nat.reduceEqDiff, Nat.reduceAdd, Nat.reduceLT, Nat.reduceLeDiff, Nat.reduceMul, Nat.reduceBEq, reduceIte, hv1, gi6, i6, c10, hv11, gi16, i16, c17]
        · simp -implicitDefEqProofs only [go_sem, Nat.reduceEqDiff, Nat.reduceAdd, Nat.reduceLT, Nat.reduceLeDiff, Nat.reduceMul, Nat.reduceBEq, reduceIte, hv1, gi6, i6, c10, hv11, gi16, i16, c17]
          obtain ⟨z22, hL22, h⟩ := bs h
          obtain ⟨I22, hI22⟩ : ∃ I : (Int × Int) → St → Prop, I = fun a s => match a with | (v23, v24) => s.G = fillKey (cut d G) (d + 1) 11 [.box [.p (.str v11.f0), .p (.int .i64 v11.f1), .p (.sl (v11.f2.map cTOut))]] ∧ s.F 1 = .p (.int .u32 a1) ∧ s.F 2 = .p (.str a2) ∧ s.F 3 = .p (.str a3) ∧ s.F 9 = .p (.int .u32 v23) ∧ s.F 18 = .p (.sl (v1.f0.f2.map cTMove)) ∧ s.F 19 = .p (.int .i64 (v1.f0.f2.length : Int)) ∧ s.F 20 = .p (.int .i64 v8) ∧ s.F 37 = .p (.sl (v11.f2.map cTOut)) ∧ s.F 38 = .p (.int .i64 (v11.f2.length : Int)) ∧ s.F 39 = .p (.int .i64 v24) ∧ True := ⟨_, rfl⟩
          obtain ⟨R22, hR22⟩ : ∃ R : (Int) → GE → St → Prop, R = fun v25 e s => e = .exit 2 ∧ s.G = fillKey (cut d G) (d + 1) 11 [.box [.p (.str v11.f0), .p (.int .i64 v11.f1), .p (.sl (v11.f2.map cTOut))]] ∧ s.F 1 = .p (.int .u32 a1) ∧ s.F 2 = .p (.str a2) ∧ s.F 3 = .p (.str a3) ∧ s.F 9 = .p (.int .u32 v25) ∧ s.F 18 = .p (.sl (v1.f0.f2.map cTMove)) ∧ s.F 19 = .p (.int .i64 (v1.f0.f2.length : Int)) ∧ s.F 20 = .p (.int .i64 v8) ∧ True := ⟨_, rfl⟩
          refine lp (ts := [13]) rfl hL22 I22 R22 ?_ ?_ ?_
          · rw [hI22]
            simp -implicitDefEqProofs only [go_sem, Nat.reduceEqDiff, Nat.reduceAdd, Nat.reduceLT, Nat.reduceLeDiff, Nat.reduceMul, Nat.reduceBEq, reduceIte, hv1, gi6, i6, c10, hv11, gi16, i16, c17]
          · clear h hL22
            rintro ⟨v23, v24⟩ y s h i
            rw [hI22] at i
            obtain ⟨gi22, i22⟩ := i
            replace h : m_auto_Auto_Step_L1 v11 a3 (v23, v24) = some y := h
            unfold m_auto_Auto_Step_L1 at h
            rcases ib h with ⟨c26, h⟩ | ⟨c26, h⟩
            · obtain ⟨v27, hv27, h⟩ := bs h
              replace hv27 := gis hv27
              simp -implicitDefEqProofs only [go_sem, Nat.reduceEqDiff, Nat.reduceAdd, Nat.reduceLT, Nat.reduceLeDiff, Nat.reduceMul, Nat.reduceBEq, reduceIte, hv1, gi6, i6, c10, hv11, gi16, i16, c17, gi22, i22, c26, hv27]
              obtain ⟨v28, hz, h⟩ := bs h
              obtain ⟨R29, hR29⟩ : ∃ R : St → Prop, R = fun s => s.G = fillKey (fillKey (cut d G) (d + 1) 11 [.box [.p (.str v11.f0), .p (.int .i64 v11.f1), .p (.sl (v11.f2.map cTOut))]]) (d + 1) 13 [.box [.p (.str v27.f0), .p (.int .i64 v27.f1)]] ∧ s.F 1 = .p (.int .u32 a1) ∧ s.F 2 = .p (.str a2) ∧ s.F 3 = .p (.str a3) ∧ s.F 9 = .p (.int .u32 v28) ∧ s.F 18 = .p (.sl (v1.f0.f2.map cTMove)) ∧ s.F 19 = .p (.int .i64 (v1.f0.f2.length : Int)) ∧ s.F 20 = .p (.int .i64 v8) ∧ s.F 37 = .p (.sl (v11.f2.map cTOut)) ∧ s.F 38 = .p (.int .i64 (v11.f2.length : Int)) ∧ s.F 39 = .p (.int .i64 v24) ∧ True := ⟨_, rfl⟩
              refine cutG R29 ?_ ?_
              · replace h := hz
                rcases ib h with ⟨c30, h⟩ | ⟨c30, h⟩
                · obtain ⟨_, c31, h⟩ := bs h
                  replace c31 := rqs c31
                  cases h
                  simp -implicitDefEqProofs only [go_sem, Nat.reduceEqDiff, Nat.reduceAdd, Nat.reduceLT, Nat.reduceLeDiff, Nat.reduceMul, Nat.reduceBEq, reduceIte, hv1, gi6, i6, c10, hv11, gi16, i16, c17, gi22, i22, c26, hv27, c30, c31]
                  rw [hR29]
                  simp -implicitDefEqProofs only [go_sem, Nat.reduceEqDiff, Nat.reduceAdd, Nat.reduceLT, Nat.reduceLeDiff, Nat.reduceMul, Nat.reduceBEq, reduceIte, hv1, gi6, i6, c10, hv11, gi16, i16, c17, gi22, i22, c26, hv27, c30, c31]
                · cases h
                  simp -implicitDefEqProofs only [go_sem, Nat.reduceEqDiff, Nat.reduceAdd, Nat.reduceLT, Nat.reduceLeDiff, Nat.reduceMul, Nat.reduceBEq, reduceIte, hv1, gi6, i6, c10, hv11, gi16, i16, c17, gi22, i22, c26, hv27, c30]
                  rw [hR29]
                  simp -implicitDefEqProofs only [go_sem, Nat.reduceEqDiff, Nat.reduceAdd, Nat.reduceLT, Nat.reduceLeDiff, Nat.reduceMul, Nat.reduceBEq, reduceIte, hv1, gi6, i6, c10, hv11, gi16, i16, c17, gi22, i22, c26, hv27, c30]
              · replace h := h; clear hz
                rintro s i
                rw [hR29] at i
                obtain ⟨gi32, i32⟩ := i
                clear hR29
                try dsimp only at h
                cases h
                simp -implicitDefEqProofs only [go_sem, Nat.reduceEqDiff, Nat.reduceAdd, Nat.reduceLT, Nat.reduceLeDiff, Nat.reduceMul, Nat.reduceBEq, reduceIte, hv1, gi6, i6, c10, hv11, gi16, i16, c17, gi22, i22, c26, hv27, gi32, i32]
                rw [hI22]
                simp -implicitDefEqProofs only [go_sem, Nat.reduceEqDiff, Nat.reduceAdd, Nat.reduceLT, Nat.reduceLeDiff, Nat.reduceMul, Nat.reduceBEq, reduceIte, hv1, gi6, i6, c10, hv11, gi16, i16, c17, gi22, i22, c26, hv27, gi32, i32]
            · cases h
              simp -implicitDefEqProofs only [go_sem, Nat.reduceEqDiff, Nat.reduceAdd, Nat.reduceLT, Nat.reduceLeDiff, Nat.reduceMul, Nat.reduceBEq, reduceIte, hv1, gi6, i6, c10, hv11, gi16, i16, c17, gi22, i22, c26]
              rw [hR22]
              refine ⟨rfl, ?_⟩
              simp -implicitDefEqProofs only [go_sem, Nat.reduceEqDiff, Nat.reduceAdd, Nat.reduceLT, Nat.reduceLeDiff, Nat.reduceMul, Nat.reduceBEq, reduceIte, hv1, gi6, i6, c10, hv11, gi16, i16, c17, gi22, i22, c26]
          · clear hL22 hI22
            intro e s hr22
            rw [hR22] at hr22
            clear hR22
            revert h hr22
            generalize z22 = v25
            intro h hr22
            try dsimp only at h hr22
            obtain ⟨rfl, gi33, i33⟩ := hr22
            cases h
            simp -implicitDefEqProofs only [go_sem, Nat.reduceEqDiff, Nat.reduceAdd, Nat.reduceLT, Nat.reduceLeDiff, Nat.reduceMul, Nat.reduceBEq, reduceIte, hv1, gi6, i6, c10, hv11, gi16, i16, c17, gi33, i33]
            rw [hI6]
            simp -implicitDefEqProofs only [go_sem, Nat.reduceEqDiff, Nat.reduceAdd, Nat.reduceLT, Nat.reduceLeDiff, Nat.reduceMul, Nat.reduceBEq, reduceIte, hv1, gi6, i6, c10, hv11, gi16, i16, c17, gi33, i33]
    · cases h
      simp -implicitDefEqProofs only [go_sem, Nat.reduceEqDiff, Nat.reduceAdd, Nat.reduceLT, Nat.reduceLeDiff, Nat.reduceMul, Nat.reduceBEq, reduceIte, hv1, gi6, i6, c10]
      rw [hR6]
      refine ⟨rfl, ?_⟩
      simp -implicitDefEqProofs only [go_sem, Nat.reduceEqDiff, Nat.reduceAdd, Nat.reduceLT, Nat.reduceLeDiff, Nat.reduceMul, Nat.reduceBEq, reduceIte, hv1, gi6, i6, c10]
  · clear hL6 hI6
    intro e s hr6
    rw [hR6] at hr6
    clear hR6
    revert h hr6
    generalize z6 = v9
    intro h hr6
    try dsimp only at h hr6
    obtain ⟨rfl, gi34, i34⟩ := hr6
    cases h
    subst hQ
    simp -implicitDefEqProofs only [go_sem, Nat.reduceEqDiff, Nat.reduceAdd, Nat.reduceLT, Nat.reduceLeDiff, Nat.reduceMul, Nat.reduceBEq, reduceIte, hv1, gi34, i34, Try.results15]
end Go.E
