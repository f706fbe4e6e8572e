import Derived.Test.YtmgcgkemgomfdaaMD
set_option linter.all false
set_option maxRecDepth 100000
namespace Go.E
open Go Go.Proofs Go.Eng
variable {TB : Nat → Option Obj}
theorem m_rat_Right_ev (a0 : TRat) (r0 : Bool) (h : m_rat_Right a0 = some r0) (d : Nat) (G : Heap) : Tel Try.prog TB d 10 [.agg ((cTRat a0).map .p)] G (.p (.bool r0)) G := by
  unfold m_rat_Right at h
  obtain ⟨_, c, h⟩ := bs h
  obtain ⟨h1, h2⟩ := rqs c
  cases h
  exact right_ev a0.f0 a0.f1 h1 h2 d G
theorem m_rat_Add_ev (a0 a1 : TRat) (r0 : TRat × Int) (h : m_rat_Add a0 a1 = some r0) (d : Nat) (G : Heap) : Tel Try.prog TB d 29 [.agg ((cTRat a0).map .p), .agg ((cTRat a1).map .p)] G (.tup [.agg ((cTRat r0.1).map .p), .p (.int .i64 r0.2)]) G := by
  unfold m_rat_Add at h
  obtain ⟨_, c, h⟩ := bs h
  obtain ⟨⟨h1, h2⟩, h3, h4⟩ := rqs c
  cases h
  exact add_ev a0.f0 a0.f1 a1.f0 a1.f1 h1 h2 h3 h4 d G
theorem m_rat_Mul_ev (a0 a1 : TRat) (r0 : TRat × Int) (h : m_rat_Mul a0 a1 = some r0) (d : Nat) (G : Heap) : Tel Try.prog TB d 20 [.agg ((cTRat a0).map .p), .agg ((cTRat a1).map .p)] G (.tup [.agg ((cTRat r0.1).map .p), .p (.int .i64 r0.2)]) G := by
  unfold m_rat_Mul at h
  obtain ⟨_, c, h⟩ := bs h
  obtain ⟨⟨h1, h2⟩, h3, h4⟩ := rqs c
  cases h
  exact mul_ev a0.f0 a0.f1 a1.f0 a1.f1 h1 h2 h3 h4 d G
theorem m_rat_minus_ev (a0 : TRat) (r0 : TRat) (h : m_rat_minus a0 = some r0) (d : Nat) (G : Heap) : Tel Try.prog TB d 30 [.agg ((cTRat a0).map .p)] G (.agg ((cTRat r0).map .p)) G := by
  unfold m_rat_minus at h
  refine Tel.intro mix Try.func30 rfl (Nat.le_of_ble_eq_true rfl) {} (by kernel_rfl) (by kernel_rfl) ?_
  generalize hQ : callPost _ _ _ _ _ = Q
  cases h
  subst hQ
  simp -implicitDefEqProofs only [go_sem, Nat.reduceEqDiff, Nat.reduceAdd, Nat.reduceLT, Nat.reduceLeDiff, Nat.reduceMul, Nat.reduceBEq, reduceIte, Try.results30]
theorem m_rat_Sub_ev (a0 : TRat) (a1 : TRat) (r0 : TRat × Int) (h : m_rat_Sub a0 a1 = some r0) (d : Nat) (G : Heap) : Tel Try.prog TB d 19 [.agg ((cTRat a0).map .p), .agg ((cTRat a1).map .p)] G (.tup [.agg ((cTRat r0.1).map .p), .p (.int .i64 r0.2)]) G := by
  unfold m_rat_Sub at h
  refine Tel.intro mix Try.func19 rfl (Nat.le_of_ble_eq_true rfl) {frzAt := fun t => t == 7 || t == 12 || t == 13, boxAt := fun t => if t = 2 then some 2 else if t = 3 then some 3 else if t = 4 then some 4 else none} (by kernel_rfl) (by kernel_rfl) ?_
  generalize hQ : callPost _ _ _ _ _ = Q
  obtain ⟨r1, hr1, h⟩ := bs h
  simp -implicitDefEqProofs only [go_sem, Nat.reduceEqDiff, Nat.reduceAdd, Nat.reduceLT, Nat.reduceLeDiff, Nat.reduceMul, Nat.reduceBEq, reduceIte]
  refine call_frz (r' := .p (.bool r1)) (m_rat_Right_ev a1 r1 hr1 (d + 1) empty) (by simp -implicitDefEqProofs only [go_sem, Nat.reduceEqDiff, Nat.reduceAdd, Nat.reduceLT, Nat.reduceLeDiff, Nat.reduceMul, Nat.reduceBEq, reduceIte]) rfl (by simp -implicitDefEqProofs only [go_sem, Nat.reduceEqDiff, Nat.reduceAdd, Nat.reduceLT, Nat.reduceLeDiff, Nat.reduceMul, Nat.reduceBEq, reduceIte]) (by simp -implicitDefEqProofs only [go_sem, Nat.reduceEqDiff, Nat.reduceAdd, Nat.reduceLT, Nat.reduceLeDiff, Nat.reduceMul, Nat.reduceBEq, reduceIte]) ?_ rfl rfl
  rcases ib h with ⟨c2, h⟩ | ⟨c2, h⟩
  · cases h
    subst hQ
    simp -implicitDefEqProofs only [go_sem, Nat.reduceEqDiff, Nat.reduceAdd, Nat.reduceLT, Nat.reduceLeDiff, Nat.reduceMul, Nat.reduceBEq, reduceIte, c2, Try.results19]
  · obtain ⟨r3, hr3, h⟩ := bs h
    simp -implicitDefEqProofs only [go_sem, Nat.reduceEqDiff, Nat.reduceAdd, Nat.reduceLT, Nat.reduceLeDiff, Nat.reduceMul, Nat.reduceBEq, reduceIte, c2]
    refine call_frz (r' := .agg [.p (.int .i64 r3.f0), .p (.int .i64 r3.f1)]) (m_rat_minus_ev a1 r3 hr3 (d + 1) empty) (by simp -implicitDefEqProofs only [go_sem, Nat.reduceEqDiff, Nat.reduceAdd, Nat.reduceLT, Nat.reduceLeDiff, Nat.reduceMul, Nat.reduceBEq, reduceIte, c2]) rfl (by simp -implicitDefEqProofs only [go_sem, Nat.reduceEqDiff, Nat.reduceAdd, Nat.reduceLT, Nat.reduceLeDiff, Nat.reduceMul, Nat.reduceBEq, reduceIte]) (by simp -implicitDefEqProofs only [go_sem, Nat.reduceEqDiff, Nat.reduceAdd, Nat.reduceLT, Nat.reduceLeDiff, Nat.reduceMul, Nat.reduceBEq, reduceIte]) ?_ rfl rfl
    obtain ⟨r4, hr4, h⟩ := bs h
    simp -implicitDefEqProofs only [go_sem, Nat.reduceEqDiff, Nat.reduceAdd, Nat.reduceLT, Nat.reduceLeDiff, Nat.reduceMul, Nat.reduceBEq, reduceIte, c2]
    refine call_frz (r' := .tup [.agg [.p (.int .i64 r4.1.f0), .p (.int .i64 r4.1.f1)], .p (.int .i64 r4.2)]) (m_rat_Add_ev a0 r3 r4 hr4 (d + 1) empty) (by simp -implicitDefEqProofs only [go_sem, Nat.reduceEqDiff, Nat.reduceAdd, Nat.reduceLT, Nat.reduceLeDiff, Nat.reduceMul, Nat.reduceBEq, reduceIte, c2]) rfl (by simp -implicitDefEqProofs only [go_sem, Nat.reduceEqDiff, Nat.reduceAdd, Nat.reduceLT, Nat.reduceLeDiff, Nat.reduceMul, Nat.reduceBEq, reduceIte]) (by simp -implicitDefEqProofs only [go_sem, Nat.reduceEqDiff, Nat.reduceAdd, Nat.reduceLT, Nat.reduceLeDiff, Nat.reduceMul, Nat.reduceBEq, reduceIte]) ?_ rfl rfl
    cases h
    subst hQ
    simp -implicitDefEqProofs only [go_sem, Nat.reduceEqDiff, Nat.reduceAdd, Nat.reduceLT, Nat.reduceLeDiff, Nat.reduceMul, Nat.reduceBEq, reduceIte, c2, Try.results19]
theorem m_ref01_Do_ev (a0 : Int) (a1 a2 : TRat) (r0 : TRat × Int) (h : m_ref01_Do a0 a1 a2 = some r0) (d : Nat) (G : Heap) : Tel Try.prog TB d 7 [.p (.int .i64 a0), .agg ((cTRat a1).map .p), .agg ((cTRat a2).map .p)] G (.tup [.agg ((cTRat r0.1).map .p), .p (.int .i64 r0.2)]) G := by
  unfold m_ref01_Do at h
  obtain ⟨_, c, h⟩ := bs h
  obtain ⟨⟨h1, h2⟩, h3, h4⟩ := rqs c
  by_cases e0 : a0 = 0
  · rw [if_pos e0] at h
    cases h
    subst e0
    exact Ref.do0_ev a1.f0 a1.f1 a2.f0 a2.f1 h1 h2 h3 h4 d G
  rw [if_neg e0] at h
  by_cases e2 : a0 = 2
  · rw [if_pos e2] at h
    cases h
    subst e2
    exact Ref.do2_ev a1.f0 a1.f1 a2.f0 a2.f1 h1 h2 h3 h4 d G
  rw [if_neg e2] at h
  cases h
theorem m_perm_one_ev  (r0 : TRat) (h : m_perm_one  = some r0) (d : Nat) (G : Heap) : Tel Try.prog TB d 8 [] G (.agg ((cTRat r0).map .p)) G := by
  unfold m_perm_one at h
  refine Tel.intro mix Try.func8 rfl (Nat.le_of_ble_eq_true rfl) {} (by kernel_rfl) (by kernel_rfl) ?_
  generalize hQ : callPost _ _ _ _ _ = Q
  cases h
  subst hQ
  simp -implicitDefEqProofs only [go_sem, Nat.reduceEqDiff, Nat.reduceAdd, Nat.reduceLT, Nat.reduceLeDiff, Nat.reduceMul, Nat.reduceBEq, reduceIte, Try.results8]
theorem m_perm_Own_ev  (r0 : TPerm) (h : m_perm_Own  = some r0) (d : Nat) (G : Heap) : Tel Try.prog TB d 5 [] G (.agg ((cTPerm r0).map .p)) G := by
  unfold m_perm_Own at h
  refine Tel.intro mix Try.func5 rfl (Nat.le_of_ble_eq_true rfl) {frzAt := fun t => t == 1} (by kernel_rfl) (by kernel_rfl) ?_
  generalize hQ : callPost _ _ _ _ _ = Q
  obtain ⟨r1, hr1, h⟩ := bs h
  simp -implicitDefEqProofs only [go_sem, Nat.reduceEqDiff, Nat.reduceAdd, Nat.reduceLT, Nat.reduceLeDiff, Nat.reduceMul, Nat.reduceBEq, reduceIte]
  refine call_frz (r' := .agg [.p (.int .i64 r1.f0), .p (.int .i64 r1.f1)]) (args := []) (caps := []) (m_perm_one_ev  r1 hr1 (d + 1) empty) (wkRs_refl []) rfl (by simp -implicitDefEqProofs only [go_sem, Nat.reduceEqDiff, Nat.reduceAdd, Nat.reduceLT, Nat.reduceLeDiff, Nat.reduceMul, Nat.reduceBEq, reduceIte]) (by simp -implicitDefEqProofs only [go_sem, Nat.reduceEqDiff, Nat.reduceAdd, Nat.reduceLT, Nat.reduceLeDiff, Nat.reduceMul, Nat.reduceBEq, reduceIte]) ?_ rfl rfl
  cases h
  subst hQ
  simp -implicitDefEqProofs only [go_sem, Nat.reduceEqDiff, Nat.reduceAdd, Nat.reduceLT, Nat.reduceLeDiff, Nat.reduceMul, Nat.reduceBEq, reduceIte, Try.results5]
theorem m_perm_left_ev (a0 : Int) (a1 : Int) (r0 : Int × Bool) (h : m_perm_left a0 a1 = some r0) (d : Nat) (G : Heap) : Tel Try.prog TB d 9 [.p (.int .i64 a0), .p (.int .i64 a1)] G (.tup [.p (.int .i64 r0.1), .p (.bool r0.2)]) G := by
  unfold m_perm_left at h
  refine Tel.intro mix Try.func9 rfl (Nat.le_of_ble_eq_true rfl) {} (by kernel_rfl) (by kernel_rfl) ?_
  generalize hQ : callPost _ _ _ _ _ = Q
  simp -implicitDefEqProofs only [go_sem, Nat.reduceEqDiff, Nat.reduceAdd, Nat.reduceLT, Nat.reduceLeDiff, Nat.reduceMul, Nat.reduceBEq, reduceIte]
  obtain ⟨v1, hz, h⟩ := bs h
  obtain ⟨R2, hR2⟩ : ∃ R : St → Prop, R = fun s => s.G = cut d G ∧ s.F 0 = .p (.int .i64 a0) ∧ s.F 1 = .p (.int .i64 a1) ∧ s.F 6 = .p (.bool v1) ∧ True := ⟨_, rfl⟩
  refine cutR R2 ?_ ?_
  · replace h := hz
    rcases ib h with ⟨c3, h⟩ | ⟨c3, h⟩
    · cases h
      simp -implicitDefEqProofs only [go_sem, Nat.reduceEqDiff, Nat.reduceAdd, Nat.reduceLT, Nat.reduceLeDiff, Nat.reduceMul, Nat.reduceBEq, reduceIte, c3]
      rw [hR2]
      simp -implicitDefEqProofs only [go_sem, Nat.reduceEqDiff, Nat.reduceAdd, Nat.reduceLT, Nat.reduceLeDiff, Nat.reduceMul, Nat.reduceBEq, reduceIte, c3]
    · cases h
      simp -implicitDefEqProofs only [go_sem, Nat.reduceEqDiff, Nat.reduceAdd, Nat.reduceLT, Nat.reduceLeDiff, Nat.reduceMul, Nat.reduceBEq, reduceIte, c3]
      rw [hR2]
      simp -implicitDefEqProofs only [go_sem, Nat.reduceEqDiff, Nat.reduceAdd, Nat.reduceLT, Nat.reduceLeDiff, Nat.reduceMul, Nat.reduceBEq, reduceIte, c3]
  · replace h := h; clear hz
    rintro s i
    rw [hR2] at i
    obtain ⟨gi4, i4⟩ := i
    clear hR2
    try dsimp only at h
    rcases ib h with ⟨c5, h⟩ | ⟨c5, h⟩
    · cases h
      subst hQ
      simp -implicitDefEqProofs only [go_sem, Nat.reduceEqDiff, Nat.reduceAdd, Nat.reduceLT, Nat.reduceLeDiff, Nat.reduceMul, Nat.reduceBEq, reduceIte, gi4, i4, c5, Try.results9]
    · simp -implicitDefEqProofs only [go_sem, Nat.reduceEqDiff, Nat.reduceAdd, Nat.reduceLT, Nat.reduceLeDiff, Nat.reduceMul, Nat.reduceBEq, reduceIte, gi4, i4, c5]
      obtain ⟨v6, hz, h⟩ := bs h
      obtain ⟨R7, hR7⟩ : ∃ R : St → Prop, R = fun s => s.G = cut d G ∧ s.F 0 = .p (.int .i64 a0) ∧ s.F 1 = .p (.int .i64 a1) ∧ s.F 13 = .p (.bool v6) ∧ True := ⟨_, rfl⟩
      refine cutR R7 ?_ ?_
      · replace h := hz
        rcases ib h with ⟨c8, h⟩ | ⟨c8, h⟩
        · cases h
          simp -implicitDefEqProofs only [go_sem, Nat.reduceEqDiff, Nat.reduceAdd, Nat.reduceLT, Nat.reduceLeDiff, Nat.reduceMul, Nat.reduceBEq, reduceIte, gi4, i4, c5, c8]
          rw [hR7]
          simp -implicitDefEqProofs only [go_sem, Nat.reduceEqDiff, Nat.reduceAdd, Nat.reduceLT, Nat.reduceLeDiff, Nat.reduceMul, Nat.reduceBEq, reduceIte, gi4, i4, c5, c8]
        · cases h
          simp -implicitDefEqProofs only [go_sem, Nat.reduceEqDiff, Nat.reduceAdd, Nat.reduceLT, Nat.reduceLeDiff, Nat.reduceMul, Nat.reduceBEq, reduceIte, gi4, i4, c5, c8]
          rw [hR7]
          simp -implicitDefEqProofs only [go_sem, Nat.reduceEqDiff, Nat.reduceAdd, Nat.reduceLT, Nat.reduceLeDiff, Nat.reduceMul, Nat.reduceBEq, reduceIte, gi4, i4, c5, c8]
      · replace h := h; clear hz
        rintro s i
        rw [hR7] at i
        obtain ⟨gi9, i9⟩ := i
        clear hR7
        try dsimp only at h
        rcases ib h with ⟨c10, h⟩ | ⟨c10, h⟩
        · cases h
          subst hQ
          simp -implicitDefEqProofs only [go_sem, Nat.reduceEqDiff, Nat.reduceAdd, Nat.reduceLT, Nat.reduceLeDiff, Nat.reduceMul, Nat.reduceBEq, reduceIte, gi4, i4, c5, gi9, i9, c10, Try.results9]
        · simp -implicitDefEqProofs only [go_sem, Nat.reduceEqDiff, Nat.reduceAdd, Nat.reduceLT, Nat.reduceLeDiff, Nat.reduceMul, Nat.reduceBEq, reduceIte, gi4, i4, c5, gi9, i9, c10]
          obtain ⟨v11, hz, h⟩ := bs h
          obtain ⟨R12, hR12⟩ : ∃ R : St → Prop, R = fun s => s.G = cut d G ∧ s.F 0 = .p (.int .i64 a0) ∧ s.F 1 = .p (.int .i64 a1) ∧ s.F 20 = .p (.bool v11) ∧ True := ⟨_, rfl⟩
          refine cutR R12 ?_ ?_
          · replace h := hz
            rcases ib h with ⟨c13, h⟩ | ⟨c13, h⟩
            · cases h
              simp -implicitDefEqProofs only [go_sem, Nat.reduceEqDiff, Nat.reduceAdd, Nat.reduceLT, Nat.reduceLeDiff, Nat.reduceMul, Nat.reduceBEq, reduceIte, gi4, i4, c5, gi9, i9, c10, c13]
              rw [hR12]
              simp -implicitDefEqProofs only [go_sem, Nat.reduceEqDiff, Nat.reduceAdd, Nat.reduceLT, Nat.reduceLeDiff, Nat.reduceMul, Nat.reduceBEq, reduceIte, gi4, i4, c5, gi9, i9, c10, c13]
            · cases h
              simp -implicitDefEqProofs only [go_sem, Nat.reduceEqDiff, Nat.reduceAdd, Nat.reduceLT, Nat.reduceLeDiff, Nat.reduceMul, Nat.reduceBEq, reduceIte, gi4, i4, c5, gi9, i9, c10, c13]
              rw [hR12]
              simp -implicitDefEqProofs only [go_sem, Nat.reduceEqDiff, Nat.reduceAdd, Nat.reduceLT, Nat.reduceLeDiff, Nat.reduceMul, Nat.reduceBEq, reduceIte, gi4, i4, c5, gi9, i9, c10, c13]
          · replace h := h; clear hz
            rintro s i
            rw [hR12] at i
            obtain ⟨gi14, i14⟩ := i
            clear hR12
            try dsimp only at h
            rcases ib h with ⟨c15, h⟩ | ⟨c15, h⟩
            · cases h
              subst hQ
              simp -implicitDefEqProofs only [go_sem, Nat.reduceEqDiff, Nat.reduceAdd, Nat.reduceLT, Nat.reduceLeDiff, Nat.reduceMul, Nat.reduceBEq, reduceIte, gi4, i4, c5, gi9, i9, c10, gi14, i14, c15, Try.results9]
            · simp -implicitDefEqProofs only [go_sem, Nat.reduceEqDiff, Nat.reduceAdd, Nat.reduceLT, Nat.reduceLeDiff, Nat.reduceMul, Nat.reduceBEq, reduceIte, gi4, i4, c5, gi9, i9, c10, gi14, i14, c15]
              obtain ⟨v16, hz, h⟩ := bs h
              obtain ⟨R17, hR17⟩ : ∃ R : St → Prop, R = fun s => s.G = cut d G ∧ s.F 0 = .p (.int .i64 a0) ∧ s.F 1 = .p (.int .i64 a1) ∧ s.F 27 = .p (.bool v16) ∧ True := ⟨_, rfl⟩
              refine cutR R17 ?_ ?_
              · replace h := hz
                rcases ib h with ⟨c18, h⟩ | ⟨c18, h⟩
                · cases h
                  simp -implicitDefEqProofs only [go_sem, Nat.reduceEqDiff, Nat.reduceAdd, Nat.reduceLT, Nat.reduceLeDiff, Nat.reduceMul, Nat.reduceBEq, reduceIte, gi4, i4, c5, gi9, i9, c10, gi14, i14, c15, c18]
                  rw [hR17]
                  simp -implicitDefEqProofs only [go_sem, Nat.reduceEqDiff, Nat.reduceAdd, Nat.reduceLT, Nat.reduceLeDiff, Nat.reduceMul, Nat.reduceBEq, reduceIte, gi4, i4, c5, gi9, i9, c10, gi14, i14, c15, c18]
                · cases h
                  simp -implicitDefEqProofs only [go_sem, Nat.reduceEqDiff, Nat.reduceAdd, Nat.reduceLT, Nat.reduceLeDiff, Nat.reduceMul, Nat.reduceBEq, reduceIte, gi4, i4, c5, gi9, i9, c10, gi14, i14, c15, c18]
                  rw [hR17]
                  simp -implicitDefEqProofs only [go_sem, Nat.reduceEqDiff, Nat.reduceAdd, Nat.reduceLT, Nat.reduceLeDiff, Nat.reduceMul, Nat.reduceBEq, reduceIte, gi4, i4, c5, gi9, i9, c10, gi14, i14, c15, c18]
              · replace h := h; clear hz
                rintro s i
                rw [hR17] at i
                obtain ⟨gi19, i19⟩ := i
                clear hR17
                try dsimp only at h
                simp -implicitDefEqProofs only [go_sem, Nat.reduceEqDiff, Nat.reduceAdd, Nat.reduceLT, Nat.reduceLeDiff, Nat.reduceMul, Nat.reduceBEq, reduceIte, gi4, i4, c5, gi9, i9, c10, gi14, i14, c15, gi19, i19]
                obtain ⟨v20, hz, h⟩ := bs h
                obtain ⟨R21, hR21⟩ : ∃ R : St → Prop, R = fun s => s.G = cut d G ∧ s.F 0 = .p (.int .i64 a0) ∧ s.F 1 = .p (.int .i64 a1) ∧ s.F 27 = .p (.bool v20) ∧ True := ⟨_, rfl⟩
                refine cutG R21 ?_ ?_
                · replace h := hz
                  rcases ib h with ⟨c22, h⟩ | ⟨c22, h⟩
                  · cases h
                    simp -implicitDefEqProofs only [go_sem, Nat.reduceEqDiff, Nat.reduceAdd, Nat.reduceLT, Nat.reduceLeDiff, Nat.reduceMul, Nat.reduceBEq, reduceIte, gi4, i4, c5, gi9, i9, c10, gi14, i14, c15, gi19, i19, c22]
                    rw [hR21]
                    simp -implicitDefEqProofs only [go_sem, Nat.reduceEqDiff, Nat.reduceAdd, Nat.reduceLT, Nat.reduceLeDiff, Nat.reduceMul, Nat.reduceBEq, reduceIte, gi4, i4, c5, gi9, i9, c10, gi14, i14, c15, gi19, i19, c22]
                  · simp -implicitDefEqProofs only [go_sem, Nat.reduceEqDiff, Nat.reduceAdd, Nat.reduceLT, Nat.reduceLeDiff, Nat.reduceMul, Nat.reduceBEq, reduceIte, gi4, i4, c5, gi9, i9, c10, gi14, i14, c15, gi19, i19, c22]
                    obtain ⟨v23, hz, h⟩ := bs h
                    obtain ⟨R24, hR24⟩ : ∃ R : St → Prop, R = fun s => s.G = cut d G ∧ s.F 0 = .p (.int .i64 a0) ∧ s.F 1 = .p (.int .i64 a1) ∧ s.F 27 = .p (.bool v23) ∧ True := ⟨_, rfl⟩
                    refine cutR R24 ?_ ?_
                    · replace h := hz
                      rcases ib h with ⟨c25, h⟩ | ⟨c25, h⟩
                      · cases h
                        simp -implicitDefEqProofs only [go_sem, Nat.reduceEqDiff, Nat.reduceAdd, Nat.reduceLT, Nat.reduceLeDiff, Nat.reduceMul, Nat.reduceBEq, reduceIte, gi4, i4, c5, gi9, i9, c10, gi14, i14, c15, gi19, i19, c22, c25]
                        rw [hR24]
                        simp -implicitDefEqProofs only [go_sem, Nat.reduceEqDiff, Nat.reduceAdd, Nat.reduceLT, Nat.reduceLeDiff, Nat.reduceMul, Nat.reduceBEq, reduceIte, gi4, i4, c5, gi9, i9, c10, gi14, i14, c15, gi19, i19, c22, c25]
                      · cases h
                        simp -implicitDefEqProofs only [go_sem, Nat.reduceEqDiff, Nat.reduceAdd, Nat.reduceLT, Nat.reduceLeDiff, Nat.reduceMul, Nat.reduceBEq, reduceIte, gi4, i4, c5, gi9, i9, c10, gi14, i14, c15, gi19, i19, c22, c25]
                        rw [hR24]
                        simp -implicitDefEqProofs only [go_sem, Nat.reduceEqDiff, Nat.reduceAdd, Nat.reduceLT, Nat.reduceLeDiff, Nat.reduceMul, Nat.reduceBEq, reduceIte, gi4, i4, c5, gi9, i9, c10, gi14, i14, c15, gi19, i19, c22, c25]
                    · replace h := h; clear hz
                      rintro s i
                      rw [hR24] at i
                      obtain ⟨gi26, i26⟩ := i
                      clear hR24
                      try dsimp only at h
                      cases h
                      simp -implicitDefEqProofs only [go_sem, Nat.reduceEqDiff, Nat.reduceAdd, Nat.reduceLT, Nat.reduceLeDiff, Nat.reduceMul, Nat.reduceBEq, reduceIte, gi4, i4, c5, gi9, i9, c10, gi14, i14, c15, gi19, i19, c22, gi26, i26]
                      rw [hR21]
                      simp -implicitDefEqProofs only [go_sem, Nat.reduceEqDiff, Nat.reduceAdd, Nat.reduceLT, Nat.reduceLeDiff, Nat.reduceMul, Nat.reduceBEq, reduceIte, gi4, i4, c5, gi9, i9, c10, gi14, i14, c15, gi19, i19, c22, gi26, i26]
                · replace h := h; clear hz
                  rintro s i
                  rw [hR21] at i
                  obtain ⟨gi27, i27⟩ := i
                  clear hR21
                  try dsimp only at h
                  rcases ib h with ⟨c28, h⟩ | ⟨c28, h⟩
                  · cases h
                    subst hQ
                    simp -implicitDefEqProofs only [go_sem, Nat.reduceEqDiff, Nat.reduceAdd, Nat.reduceLT, Nat.reduceLeDiff, Nat.reduceMul, Nat.reduceBEq, reduceIte, gi4, i4, c5, gi9, i9, c10, gi14, i14, c15, gi19, i19, gi27, i27, c28, Try.results9]
                  · simp -implicitDefEqProofs only [go_sem, Nat.reduceEqDiff, Nat.reduceAdd, Nat.reduceLT, Nat.reduceLeDiff, Nat.reduceMul, Nat.reduceBEq, reduceIte, gi4, i4, c5, gi9, i9, c10, gi14, i14, c15, gi19, i19, gi27, i27, c28]
                    obtain ⟨v29, hz, h⟩ := bs h
                    obtain ⟨R30, hR30⟩ : ∃ R : St → Prop, R = fun s => s.G = cut d G ∧ s.F 0 = .p (.int .i64 a0) ∧ s.F 1 = .p (.int .i64 a1) ∧ s.F 41 = .p (.bool v29) ∧ True := ⟨_, rfl⟩
                    refine cutR R30 ?_ ?_
                    · replace h := hz
                      rcases ib h with ⟨c31, h⟩ | ⟨c31, h⟩
                      · cases h
                        simp -implicitDefEqProofs only [go_sem, Nat.reduceEqDiff, Nat.reduceAdd, Nat.reduceLT, Nat.reduceLeDiff, Nat.reduceMul, Nat.reduceBEq, reduceIte, gi4, i4, c5, gi9, i9, c10, gi14, i14, c15, gi19, i19, gi27, i27, c28, c31]
                        rw [hR30]
                        simp -implicitDefEqProofs only [go_sem, Nat.reduceEqDiff, Nat.reduceAdd, Nat.reduceLT, Nat.reduceLeDiff, Nat.reduceMul, Nat.reduceBEq, reduceIte, gi4, i4, c5, gi9, i9, c10, gi14, i14, c15, gi19, i19, gi27, i27, c28, c31]
                      · cases h
                        simp -implicitDefEqProofs only [go_sem, Nat.reduceEqDiff, Nat.reduceAdd, Nat.reduceLT, Nat.reduceLeDiff, Nat.reduceMul, Nat.reduceBEq, reduceIte, gi4, i4, c5, gi9, i9, c10, gi14, i14, c15, gi19, i19, gi27, i27, c28, c31]
                        rw [hR30]
                        simp -implicitDefEqProofs only [go_sem, Nat.reduceEqDiff, Nat.reduceAdd, Nat.reduceLT, Nat.reduceLeDiff, Nat.reduceMul, Nat.reduceBEq, reduceIte, gi4, i4, c5, gi9, i9, c10, gi14, i14, c15, gi19, i19, gi27, i27, c28, c31]
                    · replace h := h; clear hz
                      rintro s i
                      rw [hR30] at i
                      obtain ⟨gi32, i32⟩ := i
                      clear hR30
                      try dsimp only at h
                      simp -implicitDefEqProofs only [go_sem, Nat.reduceEqDiff, Nat.reduceAdd, Nat.reduceLT, Nat.reduceLeDiff, Nat.reduceMul, Nat.reduceBEq, reduceIte, gi4, i4, c5, gi9, i9, c10, gi14, i14, c15, gi19, i19, gi27, i27, c28, gi32, i32]
                      obtain ⟨v33, hz, h⟩ := bs h
                      obtain ⟨R34, hR34⟩ : ∃ R : St → Prop, R = fun s => s.G = cut d G ∧ s.F 0 = .p (.int .i64 a0) ∧ s.F 41 = .p (.bool v33) ∧ True := ⟨_, rfl⟩
                      refine cutG R34 ?_ ?_
                      · replace h := hz
                        rcases ib h with ⟨c35, h⟩ | ⟨c35, h⟩
                        · cases h
                          simp -implicitDefEqProofs only [go_sem, Nat.reduceEqDiff, Nat.reduceAdd, Nat.reduceLT, Nat.reduceLeDiff, Nat.reduceMul, Nat.reduceBEq, reduceIte, gi4, i4, c5, gi9, i9, c10, gi14, i14, c15, gi19, i19, gi27, i27, c28, gi32, i32, c35]
                          rw [hR34]
                          simp -implicitDefEqProofs only [go_sem, Nat.reduceEqDiff, Nat.reduceAdd, Nat.reduceLT, Nat.reduceLeDiff, Nat.reduceMul, Nat.reduceBEq, reduceIte, gi4, i4, c5, gi9, i9, c10, gi14, i14, c15, gi19, i19, gi27, i27, c28, gi32, i32, c35]
                        · rcases ib h with ⟨c36, h⟩ | ⟨c36, h⟩
                          · cases h
                            simp -implicitDefEqProofs only [go_sem, Nat.reduceEqDiff, Nat.reduceAdd, Nat.reduceLT, Nat.reduceLeDiff, Nat.reduceMul, Nat.reduceBEq, reduceIte, gi4, i4, c5, gi9, i9, c10, gi14, i14, c15, gi19, i19, gi27, i27, c28, gi32, i32, c35, c36]
                            rw [hR34]
                            simp -implicitDefEqProofs only [go_sem, Nat.reduceEqDiff, Nat.reduceAdd, Nat.reduceLT, Nat.reduceLeDiff, Nat.reduceMul, Nat.reduceBEq, reduceIte, gi4, i4, c5, gi9, i9, c10, gi14, i14, c15, gi19, i19, gi27, i27, c28, gi32, i32, c35, c36]
                          · cases h
                            simp -implicitDefEqProofs only [go_sem, Nat.reduceEqDiff, Nat.reduceAdd, Nat.reduceLT, Nat.reduceLeDiff, Nat.reduceMul, Nat.reduceBEq, reduceIte, gi4, i4, c5, gi9, i9, c10, gi14, i14, c15, gi19, i19, gi27, i27, c28, gi32, i32, c35, c36]
                            rw [hR34]
                            simp -implicitDefEqProofs only [go_sem, Nat.reduceEqDiff, Nat.reduceAdd, Nat.reduceLT, Nat.reduceLeDiff, Nat.reduceMul, Nat.reduceBEq, reduceIte, gi4, i4, c5, gi9, i9, c10, gi14, i14, c15, gi19, i19, gi27, i27, c28, gi32, i32, c35, c36]
                      · replace h := h; clear hz
                        rintro s i
                        rw [hR34] at i
                        obtain ⟨gi37, i37⟩ := i
                        clear hR34
                        try dsimp only at h
                        rcases ib h with ⟨c38, h⟩ | ⟨c38, h⟩
                        · cases h
                          subst hQ
                          simp -implicitDefEqProofs only [go_sem, Nat.reduceEqDiff, Nat.reduceAdd, Nat.reduceLT, Nat.reduceLeDiff, Nat.reduceMul, Nat.reduceBEq, reduceIte, gi4, i4, c5, gi9, i9, c10, gi14, i14, c15, gi19, i19, gi27, i27, c28, gi32, i32, gi37, i37, c38, Try.results9]
                        · cases h
                          subst hQ
                          simp -implicitDefEqProofs only [go_sem, Nat.reduceEqDiff, Nat.reduceAdd, Nat.reduceLT, Nat.reduceLeDiff, Nat.reduceMul, Nat.reduceBEq, reduceIte, gi4, i4, c5, gi9, i9, c10, gi14, i14, c15, gi19, i19, gi27, i27, c28, gi32, i32, gi37, i37, c38, Try.results9]
theorem m_perm_parts_ev (a0 : TRat) (a1 : TRat) (r0 : TRat × TRat × Int) (h : m_perm_parts a0 a1 = some r0) (d : Nat) (G : Heap) : Tel Try.prog TB d 11 [.agg ((cTRat a0).map .p), .agg ((cTRat a1).map .p)] G (.tup [.agg ((cTRat r0.1).map .p), .agg ((cTRat r0.2.1).map .p), .p (.int .i64 r0.2.2)]) G := by
  unfold m_perm_parts at h
  refine Tel.intro mix Try.func11 rfl (Nat.le_of_ble_eq_true rfl) {frzAt := fun t => t == 12 || t == 14 || t == 25 || t == 36, boxAt := fun t => if t = 3 then some 3 else if t = 4 then some 4 else if t = 5 then some 5 else if t = 7 then some 7 else if t = 9 then some 9 else if t = 10 then some 10 else none} (by kernel_rfl) (by kernel_rfl) ?_
  generalize hQ : callPost _ _ _ _ _ = Q
  obtain ⟨r1, hr1, h⟩ := bs h
  simp -implicitDefEqProofs only [go_sem, Nat.reduceEqDiff, Nat.reduceAdd, Nat.reduceLT, Nat.reduceLeDiff, Nat.reduceMul, Nat.reduceBEq, reduceIte]
  refine call_frz (r' := .agg [.p (.int .i64 r1.f0), .p (.int .i64 r1.f1)]) (args := []) (caps := []) (m_perm_one_ev  r1 hr1 (d + 1) empty) (wkRs_refl []) rfl (by simp -implicitDefEqProofs only [go_sem, Nat.reduceEqDiff, Nat.reduceAdd, Nat.reduceLT, Nat.reduceLeDiff, Nat.reduceMul, Nat.reduceBEq, reduceIte]) (by simp -implicitDefEqProofs only [go_sem, Nat.reduceEqDiff, Nat.reduceAdd, Nat.reduceLT, Nat.reduceLeDiff, Nat.reduceMul, Nat.reduceBEq, reduceIte]) ?_ rfl rfl
  obtain ⟨r2, hr2, h⟩ := bs h
  simp -implicitDefEqProofs only [go_sem, Nat.reduceEqDiff, Nat.reduceAdd, Nat.reduceLT, Nat.reduceLeDiff, Nat.reduceMul, Nat.reduceBEq, reduceIte]
  refine call_frz (r' := .tup [.agg [.p (.int .i64 r2.1.f0), .p (.int .i64 r2.1.f1)], .p (.int .i64 r2.2)]) (m_rat_Sub_ev r1 a1 r2 hr2 (d + 1) empty) (by simp -implicitDefEqProofs only [go_sem, Nat.reduceEqDiff, Nat.reduceAdd, Nat.reduceLT, Nat.reduceLeDiff, Nat.reduceMul, Nat.reduceBEq, reduceIte]) rfl (by simp -implicitDefEqProofs only [go_sem, Nat.reduceEqDiff, Nat.reduceAdd, Nat.reduceLT, Nat.reduceLeDiff, Nat.reduceMul, Nat.reduceBEq, reduceIte]) (by simp -implicitDefEqProofs only [go_sem, Nat.reduceEqDiff, Nat.reduceAdd, Nat.reduceLT, Nat.reduceLeDiff, Nat.reduceMul, Nat.reduceBEq, reduceIte]) ?_ rfl rfl
  rcases ib h with ⟨c3, h⟩ | ⟨c3, h⟩
  · cases h
    subst hQ
    simp -implicitDefEqProofs only [go_sem, Nat.reduceEqDiff, Nat.reduceAdd, Nat.reduceLT, Nat.reduceLeDiff, Nat.reduceMul, Nat.reduceBEq, reduceIte, c3, Try.results11]
  · obtain ⟨r4, hr4, h⟩ := bs h
    simp -implicitDefEqProofs only [go_sem, Nat.reduceEqDiff, Nat.reduceAdd, Nat.reduceLT, Nat.reduceLeDiff, Nat.reduceMul, Nat.reduceBEq, reduceIte, c3]
    refine call_frz (r' := .tup [.agg [.p (.int .i64 r4.1.f0), .p (.int .i64 r4.1.f1)], .p (.int .i64 r4.2)]) (m_rat_Mul_ev a0 r2.1 r4 hr4 (d + 1) empty) (by simp -implicitDefEqProofs only [go_sem, Nat.reduceEqDiff, Nat.reduceAdd, Nat.reduceLT, Nat.reduceLeDiff, Nat.reduceMul, Nat.reduceBEq, reduceIte, c3]) rfl (by simp -implicitDefEqProofs only [go_sem, Nat.reduceEqDiff, Nat.reduceAdd, Nat.reduceLT, Nat.reduceLeDiff, Nat.reduceMul, Nat.reduceBEq, reduceIte]) (by simp -implicitDefEqProofs only [go_sem, Nat.reduceEqDiff, Nat.reduceAdd, Nat.reduceLT, Nat.reduceLeDiff, Nat.reduceMul, Nat.reduceBEq, reduceIte]) ?_ rfl rfl
    rcases ib h with ⟨c5, h⟩ | ⟨c5, h⟩
    · cases h
      subst hQ
      simp -implicitDefEqProofs only [go_sem, Nat.reduceEqDiff, Nat.reduceAdd, Nat.reduceLT, Nat.reduceLeDiff, Nat.reduceMul, Nat.reduceBEq, reduceIte, c3, c5, Try.results11]
    · obtain ⟨r6, hr6, h⟩ := bs h
      simp -implicitDefEqProofs only [go_sem, Nat.reduceEqDiff, Nat.reduceAdd, Nat.reduceLT, Nat.reduceLeDiff, Nat.reduceMul, Nat.reduceBEq, reduceIte, c3, c5]
      refine call_frz (r' := .tup [.agg [.p (.int .i64 r6.1.f0), .p (.int .i64 r6.1.f1)], .p (.int .i64 r6.2)]) (m_rat_Mul_ev a0 a1 r6 hr6 (d + 1) empty) (by simp -implicitDefEqProofs only [go_sem, Nat.reduceEqDiff, Nat.reduceAdd, Nat.reduceLT, Nat.reduceLeDiff, Nat.reduceMul, Nat.reduceBEq, reduceIte, c3, c5]) rfl (by simp -implicitDefEqProofs only [go_sem, Nat.reduceEqDiff, Nat.reduceAdd, Nat.reduceLT, Nat.reduceLeDiff, Nat.reduceMul, Nat.reduceBEq, reduceIte]) (by simp -implicitDefEqProofs only [go_sem, Nat.reduceEqDiff, Nat.reduceAdd, Nat.reduceLT, Nat.reduceLeDiff, Nat.reduceMul, Nat.reduceBEq, reduceIte]) ?_ rfl rfl
      cases h
      subst hQ
      simp -implicitDefEqProofs only [go_sem, Nat.reduceEqDiff, Nat.reduceAdd, Nat.reduceLT, Nat.reduceLeDiff, Nat.reduceMul, Nat.reduceBEq, reduceIte, c3, c5, Try.results11]
theorem m_perm_Split_ev (a0 : TPerm) (a1 : Int) (a2 : TRat) (a3 : Int) (r0 : TPerm × TPerm × Int) (h : m_perm_Split a0 a1 a2 a3 = some r0) (d : Nat) (G : Heap) : Tel Try.prog TB d 6 [.agg ((cTPerm a0).map .p), .p (.int .i64 a1), .agg ((cTRat a2).map .p), .p (.int .u32 a3)] G (.tup [.agg ((cTPerm r0.1).map .p), .agg ((cTPerm r0.2.1).map .p), .p (.int .i64 r0.2.2)]) G := by
  unfold m_perm_Split at h
  refine Tel.intro mix Try.func6 rfl (Nat.le_of_ble_eq_true rfl) {frzAt := fun t => t == 21 || t == 36 || t == 41 || t == 68, boxAt := fun t => if t = 8 then some 8 else if t = 9 then some 9 else if t = 14 then some 14 else if t = 15 then some 15 else if t = 83 then some 4 else if t = 89 then some 4 else none} (by kernel_rfl) (by kernel_rfl) ?_
  generalize hQ : callPost _ _ _ _ _ = Q
  obtain ⟨r1, hr1, h⟩ := bs h
  simp -implicitDefEqProofs only [go_sem, Nat.reduceEqDiff, Nat.reduceAdd, Nat.reduceLT, Nat.reduceLeDiff, Nat.reduceMul, Nat.reduceBEq, reduceIte]
  refine call_frz (r' := .tup [.p (.int .i64 r1.1), .p (.bool r1.2)]) (m_perm_left_ev a0.f0 a1 r1 hr1 (d + 1) empty) (by simp -implicitDefEqProofs only [go_sem, Nat.reduceEqDiff, Nat.reduceAdd, Nat.reduceLT, Nat.reduceLeDiff, Nat.reduceMul, Nat.reduceBEq, reduceIte]) rfl (by simp -implicitDefEqProofs only [go_sem, Nat.reduceEqDiff, Nat.reduceAdd, Nat.reduceLT, Nat.reduceLeDiff, Nat.reduceMul, Nat.reduceBEq, reduceIte]) (by simp -implicitDefEqProofs only [go_sem, Nat.reduceEqDiff, Nat.reduceAdd, Nat.reduceLT, Nat.reduceLeDiff, Nat.reduceMul, Nat.reduceBEq, reduceIte]) ?_ rfl rfl
  simp -implicitDefEqProofs only [go_sem, Nat.reduceEqDiff, Nat.reduceAdd, Nat.reduceLT, Nat.reduceLeDiff, Nat.reduceMul, Nat.reduceBEq, reduceIte]
  obtain ⟨v2, hz, h⟩ := bs h
  obtain ⟨R3, hR3⟩ : ∃ R : St → Prop, R = fun s => s.G = fillKey (fillKey (fillKey (fillKey (cut d G) (d + 1) 4 [.box [.p (.int .i64 a0.f0), .p (.int .i64 a0.f1.f0), .p (.int .i64 a0.f1.f1), .p (.int .i64 a0.f2), .p (.int .u32 a0.f3)]]) (d + 1) 6 [.box [.p (.int .i64 a2.f0), .p (.int .i64 a2.f1)]]) (d + 1) 8 [.box [.p (.int .i64 0), .p (.int .i64 0), .p (.int .i64 0), .p (.int .i64 0), .p (.int .u32 0)]]) (d + 1) 9 [.box [.p (.int .i64 0), .p (.int .i64 0), .p (.int .i64 0), .p (.int .i64 0), .p (.int .u32 0)]] ∧ s.F 1 = .p (.int .i64 a1) ∧ s.F 3 = .p (.int .u32 a3) ∧ s.F 4 = .bp (d + 1, 4, 0) 0 ∧ s.F 6 = .bp (d + 1, 6, 0) 0 ∧ s.F 8 = .bp (d + 1, 8, 0) 0 ∧ s.F 9 = .bp (d + 1, 9, 0) 0 ∧ s.F 11 = .p (.int .i64 r1.1) ∧ s.F 12 = .p (.bool r1.2) ∧ s.F 13 = .p (.bool v2) ∧ True := ⟨_, rfl⟩
  refine cutR R3 ?_ ?_
  · replace h := hz
    rcases ib h with ⟨c4, h⟩ | ⟨c4, h⟩
    · cases h
      simp -implicitDefEqProofs only [go_sem, Nat.reduceEqDiff, Nat.reduceAdd, Nat.reduceLT, Nat.reduceLeDiff, Nat.reduceMul, Nat.reduceBEq, reduceIte, c4]
      rw [hR3]
      simp -implicitDefEqProofs only [go_sem, Nat.reduceEqDiff, Nat.reduceAdd, Nat.reduceLT, Nat.reduceLeDiff, Nat.reduceMul, Nat.reduceBEq, reduceIte, c4]
    · cases h
      simp -implicitDefEqProofs only [go_sem, Nat.reduceEqDiff, Nat.reduceAdd, Nat.reduceLT, Nat.reduceLeDiff, Nat.reduceMul, Nat.reduceBEq, reduceIte, c4]
      rw [hR3]
      simp -implicitDefEqProofs only [go_sem, Nat.reduceEqDiff, Nat.reduceAdd, Nat.reduceLT, Nat.reduceLeDiff, Nat.reduceMul, Nat.reduceBEq, reduceIte, c4]
  · replace h := h; clear hz
    rintro s i
    rw [hR3] at i
    obtain ⟨gi5, i5⟩ := i
    clear hR3
    try dsimp only at h
    simp -implicitDefEqProofs only [go_sem, Nat.reduceEqDiff, Nat.reduceAdd, Nat.reduceLT, Nat.reduceLeDiff, Nat.reduceMul, Nat.reduceBEq, reduceIte, gi5, i5]
    obtain ⟨v6, hz, h⟩ := bs h
    obtain ⟨R7, hR7⟩ : ∃ R : St → Prop, R = fun s => s.G = fillKey (fillKey (fillKey (fillKey (cut d G) (d + 1) 4 [.box [.p (.int .i64 a0.f0), .p (.int .i64 a0.f1.f0), .p (.int .i64 a0.f1.f1), .p (.int .i64 a0.f2), .p (.int .u32 a0.f3)]]) (d + 1) 6 [.box [.p (.int .i64 a2.f0), .p (.int .i64 a2.f1)]]) (d + 1) 8 [.box [.p (.int .i64 0), .p (.int .i64 0), .p (.int .i64 0), .p (.int .i64 0), .p (.int .u32 0)]]) (d + 1) 9 [.box [.p (.int .i64 0), .p (.int .i64 0), .p (.int .i64 0), .p (.int .i64 0), .p (.int .u32 0)]] ∧ s.F 1 = .p (.int .i64 a1) ∧ s.F 3 = .p (.int .u32 a3) ∧ s.F 4 = .bp (d + 1, 4, 0) 0 ∧ s.F 6 = .bp (d + 1, 6, 0) 0 ∧ s.F 8 = .bp (d + 1, 8, 0) 0 ∧ s.F 9 = .bp (d + 1, 9, 0) 0 ∧ s.F 11 = .p (.int .i64 r1.1) ∧ s.F 13 = .p (.bool v2) ∧ s.F 61 = .p (.bool v6) ∧ True := ⟨_, rfl⟩
    refine cutR R7 ?_ ?_
    · replace h := hz
      rcases ib h with ⟨c8, h⟩ | ⟨c8, h⟩
      · cases h
        simp -implicitDefEqProofs only [go_sem, Nat.reduceEqDiff, Nat.reduceAdd, Nat.reduceLT, Nat.reduceLeDiff, Nat.reduceMul, Nat.reduceBEq, reduceIte, gi5, i5, c8]
        rw [hR7]
        simp -implicitDefEqProofs only [go_sem, Nat.reduceEqDiff, Nat.reduceAdd, Nat.reduceLT, Nat.reduceLeDiff, Nat.reduceMul, Nat.reduceBEq, reduceIte, gi5, i5, c8]
      · obtain ⟨r9, hr9, h⟩ := bs h
        simp -implicitDefEqProofs only [go_sem, Nat.reduceEqDiff, Nat.reduceAdd, Nat.reduceLT, Nat.reduceLeDiff, Nat.reduceMul, Nat.reduceBEq, reduceIte, gi5, i5, c8]
        refine call_frz (r' := .p (.bool r9)) (m_rat_Right_ev a0.f1 r9 hr9 (d + 1) empty) (by simp -implicitDefEqProofs only [go_sem, Nat.reduceEqDiff, Nat.reduceAdd, Nat.reduceLT, Nat.reduceLeDiff, Nat.reduceMul, Nat.reduceBEq, reduceIte, gi5, i5, c8]) rfl (by simp -implicitDefEqProofs only [go_sem, Nat.reduceEqDiff, Nat.reduceAdd, Nat.reduceLT, Nat.reduceLeDiff, Nat.reduceMul, Nat.reduceBEq, reduceIte]) (by simp -implicitDefEqProofs only [go_sem, Nat.reduceEqDiff, Nat.reduceAdd, Nat.reduceLT, Nat.reduceLeDiff, Nat.reduceMul, Nat.reduceBEq, reduceIte]) ?_ rfl rfl
        rcases ib h with ⟨c10, h⟩ | ⟨c10, h⟩
        · cases h
          simp -implicitDefEqProofs only [go_sem, Nat.reduceEqDiff, Nat.reduceAdd, Nat.reduceLT, Nat.reduceLeDiff, Nat.reduceMul, Nat.reduceBEq, reduceIte, gi5, i5, c8, c10]
          rw [hR7]
          simp -implicitDefEqProofs only [go_sem, Nat.reduceEqDiff, Nat.reduceAdd, Nat.reduceLT, Nat.reduceLeDiff, Nat.reduceMul, Nat.reduceBEq, reduceIte, gi5, i5, c8, c10]
        · obtain ⟨r11, hr11, h⟩ := bs h
          simp -implicitDefEqProofs only [go_sem, Nat.reduceEqDiff, Nat.reduceAdd, Nat.reduceLT, Nat.reduceLeDiff, Nat.reduceMul, Nat.reduceBEq, reduceIte, gi5, i5, c8, c10]
          refine call_frz (r' := .p (.bool r11)) (m_rat_Right_ev a2 r11 hr11 (d + 1) empty) (by simp -implicitDefEqProofs only [go_sem, Nat.reduceEqDiff, Nat.reduceAdd, Nat.reduceLT, Nat.reduceLeDiff, Nat.reduceMul, Nat.reduceBEq, reduceIte, gi5, i5, c8, c10]) rfl (by simp -implicitDefEqProofs only [go_sem, Nat.reduceEqDiff, Nat.reduceAdd, Nat.reduceLT, Nat.reduceLeDiff, Nat.reduceMul, Nat.reduceBEq, reduceIte]) (by simp -implicitDefEqProofs only [go_sem, Nat.reduceEqDiff, Nat.reduceAdd, Nat.reduceLT, Nat.reduceLeDiff, Nat.reduceMul, Nat.reduceBEq, reduceIte]) ?_ rfl rfl
          rcases ib h with ⟨c12, h⟩ | ⟨c12, h⟩
          · cases h
            simp -implicitDefEqProofs only [go_sem, Nat.reduceEqDiff, Nat.reduceAdd, Nat.reduceLT, Nat.reduceLeDiff, Nat.reduceMul, Nat.reduceBEq, reduceIte, gi5, i5, c8, c10, c12]
            rw [hR7]
            simp -implicitDefEqProofs only [go_sem, Nat.reduceEqDiff, Nat.reduceAdd, Nat.reduceLT, Nat.reduceLeDiff, Nat.reduceMul, Nat.reduceBEq, reduceIte, gi5, i5, c8, c10, c12]
          · rcases ib h with ⟨c13, h⟩ | ⟨c13, h⟩
            · cases h
              simp -implicitDefEqProofs only [go_sem, Nat.reduceEqDiff, Nat.reduceAdd, Nat.reduceLT, Nat.reduceLeDiff, Nat.reduceMul, Nat.reduceBEq, reduceIte, gi5, i5, c8, c10, c12, c13]
              rw [hR7]
              simp -implicitDefEqProofs only [go_sem, Nat.reduceEqDiff, Nat.reduceAdd, Nat.reduceLT, Nat.reduceLeDiff, Nat.reduceMul, Nat.reduceBEq, reduceIte, gi5, i5, c8, c10, c12, c13]
            · rcases ib h with ⟨c14, h⟩ | ⟨c14, h⟩
              · cases h
                simp -implicitDefEqProofs only [go_sem, Nat.reduceEqDiff, Nat.reduceAdd, Nat.reduceLT, Nat.reduceLeDiff, Nat.reduceMul, Nat.reduceBEq, reduceIte, gi5, i5, c8, c10, c12, c13, c14]
                rw [hR7]
                simp -implicitDefEqProofs only [go_sem, Nat.reduceEqDiff, Nat.reduceAdd, Nat.reduceLT, Nat.reduceLeDiff, Nat.reduceMul, Nat.reduceBEq, reduceIte, gi5, i5, c8, c10, c12, c13, c14]
              · cases h
                simp -implicitDefEqProofs only [go_sem, Nat.reduceEqDiff, Nat.reduceAdd, Nat.reduceLT, Nat.reduceLeDiff, Nat.reduceMul, Nat.reduceBEq, reduceIte, gi5, i5, c8, c10, c12, c13, c14]
                rw [hR7]
                simp -implicitDefEqProofs only [go_sem, Nat.reduceEqDiff, Nat.reduceAdd, Nat.reduceLT, Nat.reduceLeDiff, Nat.reduceMul, Nat.reduceBEq, reduceIte, gi5, i5, c8, c10, c12, c13, c14]
    · replace h := h; clear hz
      rintro s i
      rw [hR7] at i
      obtain ⟨gi15, i15⟩ := i
      clear hR7
      try dsimp only at h
      rcases ib h with ⟨c16, h⟩ | ⟨c16, h⟩
      · cases h
        subst hQ
        simp -implicitDefEqProofs only [go_sem, Nat.reduceEqDiff, Nat.reduceAdd, Nat.reduceLT, Nat.reduceLeDiff, Nat.reduceMul, Nat.reduceBEq, reduceIte, gi5, i5, gi15, i15, c16, Try.results6]
      · obtain ⟨r17, hr17, h⟩ := bs h
        simp -implicitDefEqProofs only [go_sem, Nat.reduceEqDiff, Nat.reduceAdd, Nat.reduceLT, Nat.reduceLeDiff, Nat.reduceMul, Nat.reduceBEq, reduceIte, gi5, i5, gi15, i15, c16]
        refine call_frz (r' := .tup [.agg [.p (.int .i64 r17.1.f0), .p (.int .i64 r17.1.f1)], .agg [.p (.int .i64 r17.2.1.f0), .p (.int .i64 r17.2.1.f1)], .p (.int .i64 r17.2.2)]) (m_perm_parts_ev a0.f1 a2 r17 hr17 (d + 1) empty) (by simp -implicitDefEqProofs only [go_sem, Nat.reduceEqDiff, Nat.reduceAdd, Nat.reduceLT, Nat.reduceLeDiff, Nat.reduceMul, Nat.reduceBEq, reduceIte, gi5, i5, gi15, i15, c16]) rfl (by simp -implicitDefEqProofs only [go_sem, Nat.reduceEqDiff, Nat.reduceAdd, Nat.reduceLT, Nat.reduceLeDiff, Nat.reduceMul, Nat.reduceBEq, reduceIte]) (by simp -implicitDefEqProofs only [go_sem, Nat.reduceEqDiff, Nat.reduceAdd, Nat.reduceLT, Nat.reduceLeDiff, Nat.reduceMul, Nat.reduceBEq, reduceIte]) ?_ rfl rfl
        rcases ib h with ⟨c18, h⟩ | ⟨c18, h⟩
        · cases h
          subst hQ
          simp -implicitDefEqProofs only [go_sem, Nat.reduceEqDiff, Nat.reduceAdd, Nat.reduceLT, Nat.reduceLeDiff, Nat.reduceMul, Nat.reduceBEq, reduceIte, gi5, i5, gi15, i15, c16, c18, Try.results6]
        · simp -implicitDefEqProofs only [go_sem, Nat.reduceEqDiff, Nat.reduceAdd, Nat.reduceLT, Nat.reduceLeDiff, Nat.reduceMul, Nat.reduceBEq, reduceIte, gi5, i5, gi15, i15, c16, c18]
          obtain ⟨v19, hz, h⟩ := bs h
          obtain ⟨R20, hR20⟩ : ∃ R : St → Prop, R = fun s => s.G = fillKey (fillKey (fillKey (fillKey (fillKey (fillKey (cut d G) (d + 1) 4 [.box [.p (.int .i64 a0.f0), .p (.int .i64 a0.f1.f0), .p (.int .i64 a0.f1.f1), .p (.int .i64 a0.f2), .p (.int .u32 a0.f3)]]) (d + 1) 6 [.box [.p (.int .i64 a2.f0), .p (.int .i64 a2.f1)]]) (d + 1) 8 [.box [.p (.int .i64 0), .p (.int .i64 0), .p (.int .i64 0), .p (.int .i64 0), .p (.int .u32 0)]]) (d + 1) 9 [.box [.p (.int .i64 0), .p (.int .i64 0), .p (.int .i64 0), .p (.int .i64 0), .p (.int .u32 0)]]) (d + 1) 14 [.box [.p (.int .i64 r17.1.f0), .p (.int .i64 r17.1.f1)]]) (d + 1) 15 [.box [.p (.int .i64 r17.2.1.f0), .p (.int .i64 r17.2.1.f1)]] ∧ s.F 1 = .p (.int .i64 a1) ∧ s.F 3 = .p (.int .u32 v19) ∧ s.F 4 = .bp (d + 1, 4, 0) 0 ∧ s.F 8 = .bp (d + 1, 8, 0) 0 ∧ s.F 9 = .bp (d + 1, 9, 0) 0 ∧ s.F 11 = .p (.int .i64 r1.1) ∧ s.F 14 = .bp (d + 1, 14, 0) 0 ∧ s.F 15 = .bp (d + 1, 15, 0) 0 ∧ True := ⟨_, rfl⟩
          refine cutG R20 ?_ ?_
          · replace h := hz
            rcases ib h with ⟨c21, h⟩ | ⟨c21, h⟩
            · cases h
              simp -implicitDefEqProofs only [go_sem, Nat.reduceEqDiff, Nat.reduceAdd, Nat.reduceLT, Nat.reduceLeDiff, Nat.reduceMul, Nat.reduceBEq, reduceIte, gi5, i5, gi15, i15, c16, c18, c21]
              rw [hR20]
              simp -implicitDefEqProofs only [go_sem, Nat.reduceEqDiff, Nat.reduceAdd, Nat.reduceLT, Nat.reduceLeDiff, Nat.reduceMul, Nat.reduceBEq, reduceIte, gi5, i5, gi15, i15, c16, c18, c21]
            · cases h
              simp -implicitDefEqProofs only [go_sem, Nat.reduceEqDiff, Nat.reduceAdd, Nat.reduceLT, Nat.reduceLeDiff, Nat.reduceMul, Nat.reduceBEq, reduceIte, gi5, i5, gi15, i15, c16, c18, c21]
              rw [hR20]
              simp -implicitDefEqProofs only [go_sem, Nat.reduceEqDiff, Nat.reduceAdd, Nat.reduceLT, Nat.reduceLeDiff, Nat.reduceMul, Nat.reduceBEq, reduceIte, gi5, i5, gi15, i15, c16, c18, c21]
          · replace h := h; clear hz
            rintro s i
            rw [hR20] at i
            obtain ⟨gi22, i22⟩ := i
            clear hR20
            try dsimp only at h
            cases h
            subst hQ
            simp -implicitDefEqProofs only [go_sem, Nat.reduceEqDiff, Nat.reduceAdd, Nat.reduceLT, Nat.reduceLeDiff, Nat.reduceMul, Nat.reduceBEq, reduceIte, gi5, i5, gi15, i15, c16, c18, gi22, i22, Try.results6]
theorem m_law15_awake_ev  (r0 : Bool) (h : m_law15_awake  = some r0) (d : Nat) (G : Heap) : Tel Try.prog TB d 4 [] G (.p (.bool r0)) G := by
  unfold m_law15_awake at h
  refine Tel.intro mix Try.func4 rfl (Nat.le_of_ble_eq_true rfl) {frzAt := fun t => t == 5 || t == 7} (by kernel_rfl) (by kernel_rfl) ?_
  generalize hQ : callPost _ _ _ _ _ = Q
  obtain ⟨r1, hr1, h⟩ := bs h
  simp -implicitDefEqProofs only [go_sem, Nat.reduceEqDiff, Nat.reduceAdd, Nat.reduceLT, Nat.reduceLeDiff, Nat.reduceMul, Nat.reduceBEq, reduceIte]
  refine call_frz (r' := .agg [.p (.int .i64 r1.f0), .p (.int .i64 r1.f1.f0), .p (.int .i64 r1.f1.f1), .p (.int .i64 r1.f2), .p (.int .u32 r1.f3)]) (args := []) (caps := []) (m_perm_Own_ev  r1 hr1 (d + 1) empty) (wkRs_refl []) rfl (by simp -implicitDefEqProofs only [go_sem, Nat.reduceEqDiff, Nat.reduceAdd, Nat.reduceLT, Nat.reduceLeDiff, Nat.reduceMul, Nat.reduceBEq, reduceIte]) (by simp -implicitDefEqProofs only [go_sem, Nat.reduceEqDiff, Nat.reduceAdd, Nat.reduceLT, Nat.reduceLeDiff, Nat.reduceMul, Nat.reduceBEq, reduceIte]) ?_ rfl rfl
  obtain ⟨r2, hr2, h⟩ := bs h
  simp -implicitDefEqProofs only [go_sem, Nat.reduceEqDiff, Nat.reduceAdd, Nat.reduceLT, Nat.reduceLeDiff, Nat.reduceMul, Nat.reduceBEq, reduceIte]
  refine call_frz (r' := .tup [.agg [.p (.int .i64 r2.1.f0), .p (.int .i64 r2.1.f1.f0), .p (.int .i64 r2.1.f1.f1), .p (.int .i64 r2.1.f2), .p (.int .u32 r2.1.f3)], .agg [.p (.int .i64 r2.2.1.f0), .p (.int .i64 r2.2.1.f1.f0), .p (.int .i64 r2.2.1.f1.f1), .p (.int .i64 r2.2.1.f2), .p (.int .u32 r2.2.1.f3)], .p (.int .i64 r2.2.2)]) (m_perm_Split_ev r1 3 (⟨1, 3⟩ : TRat) 0 r2 hr2 (d + 1) empty) (by simp -implicitDefEqProofs only [go_sem, Nat.reduceEqDiff, Nat.reduceAdd, Nat.reduceLT, Nat.reduceLeDiff, Nat.reduceMul, Nat.reduceBEq, reduceIte]) rfl (by simp -implicitDefEqProofs only [go_sem, Nat.reduceEqDiff, Nat.reduceAdd, Nat.reduceLT, Nat.reduceLeDiff, Nat.reduceMul, Nat.reduceBEq, reduceIte]) (by simp -implicitDefEqProofs only [go_sem, Nat.reduceEqDiff, Nat.reduceAdd, Nat.reduceLT, Nat.reduceLeDiff, Nat.reduceMul, Nat.reduceBEq, reduceIte]) ?_ rfl rfl
  rcases ib h with ⟨c3, h⟩ | ⟨c3, h⟩
  · simp -implicitDefEqProofs only [go_sem, Nat.reduceEqDiff, Nat.reduceAdd, Nat.reduceLT, Nat.reduceLeDiff, Nat.reduceMul, Nat.reduceBEq, reduceIte, c3]
    refine eqS_TPerm r2.1 (⟨3, (⟨2, 3⟩ : TRat), -1, 0⟩ : TPerm) ?_
    rcases ib h with ⟨c4, h⟩ | ⟨c4, h⟩
    · simp -implicitDefEqProofs only [go_sem, Nat.reduceEqDiff, Nat.reduceAdd, Nat.reduceLT, Nat.reduceLeDiff, Nat.reduceMul, Nat.reduceBEq, reduceIte, c3, c4]
      refine eqS_TPerm r2.2.1 (⟨3, (⟨1, 3⟩ : TRat), -1, 0⟩ : TPerm) ?_
      cases h
      subst hQ
      simp -implicitDefEqProofs only [go_sem, Nat.reduceEqDiff, Nat.reduceAdd, Nat.reduceLT, Nat.reduceLeDiff, Nat.reduceMul, Nat.reduceBEq, reduceIte, c3, c4, Try.results4]
    · cases h
      subst hQ
      simp -implicitDefEqProofs only [go_sem, Nat.reduceEqDiff, Nat.reduceAdd, Nat.reduceLT, Nat.reduceLeDiff, Nat.reduceMul, Nat.reduceBEq, reduceIte, c3, c4, Try.results4]
  · cases h
    subst hQ
    simp -implicitDefEqProofs only [go_sem, Nat.reduceEqDiff, Nat.reduceAdd, Nat.reduceLT, Nat.reduceLeDiff, Nat.reduceMul, Nat.reduceBEq, reduceIte, c3, Try.results4]
theorem m_law15_PermKeeps_ev (a0 : List Int) (a1 : List Int) (r0 : Bool) (h : m_law15_PermKeeps a0 a1 = some r0) (d : Nat) (G : Heap) : Tel Try.prog TB d 3 [.p (.sl (a0.map ciu8)), .p (.sl (a1.map ciu8))] G (.p (.bool r0)) G := by
  unfold m_law15_PermKeeps at h
  refine Tel.intro mix Try.func3 rfl (Nat.le_of_ble_eq_true rfl) {frzAt := fun t => t == 18 || t == 25 || t == 26 || t == 72 || t == 109, arrAt := fun t => t == 27 || t == 85, boxAt := fun t => if t = 14 then some 14 else if t = 16 then some 16 else none, clean := fun r => if r = 5 then [10, 11, 85] else if r = 21 then [16] else []} (by kernel_rfl) (by kernel_rfl) ?_
  generalize hQ : callPost _ _ _ _ _ = Q
  obtain ⟨r1, hr1, h⟩ := bs h
  simp -implicitDefEqProofs only [go_sem, Nat.reduceEqDiff, Nat.reduceAdd, Nat.reduceLT, Nat.reduceLeDiff, Nat.reduceMul, Nat.reduceBEq, reduceIte]
  refine call_frz (r' := .p (.bool r1)) (args := []) (caps := []) (m_law15_awake_ev  r1 hr1 (d + 1) empty) (wkRs_refl []) rfl (by simp -implicitDefEqProofs only [go_sem, Nat.reduceEqDiff, Nat.reduceAdd, Nat.reduceLT, Nat.reduceLeDiff, Nat.reduceMul, Nat.reduceBEq, reduceIte]) (by simp -implicitDefEqProofs only [go_sem, Nat.reduceEqDiff, Nat.reduceAdd, Nat.reduceLT, Nat.reduceLeDiff, Nat.reduceMul, Nat.reduceBEq, reduceIte]) ?_ rfl rfl
  simp -implicitDefEqProofs only [go_sem, Nat.reduceEqDiff, Nat.reduceAdd, Nat.reduceLT, Nat.reduceLeDiff, Nat.reduceMul, Nat.reduceBEq, reduceIte]
  obtain ⟨v2, hz, h⟩ := bs h
  obtain ⟨R3, hR3⟩ : ∃ R : St → Prop, R = fun s => s.G = cut d G ∧ s.F 0 = .p (.sl (a0.map ciu8)) ∧ s.F 1 = .p (.sl (a1.map ciu8)) ∧ s.F 24 = .p (.bool v2) ∧ True := ⟨_, rfl⟩
  refine cutR R3 ?_ ?_
  · replace h := hz
    rcases ib h with ⟨c4, h⟩ | ⟨c4, h⟩
    · cases h
      simp -implicitDefEqProofs only [go_sem, Nat.reduceEqDiff, Nat.reduceAdd, Nat.reduceLT, Nat.reduceLeDiff, Nat.reduceMul, Nat.reduceBEq, reduceIte, c4]
      rw [hR3]
      simp -implicitDefEqProofs only [go_sem, Nat.reduceEqDiff, Nat.reduceAdd, Nat.reduceLT, Nat.reduceLeDiff, Nat.reduceMul, Nat.reduceBEq, reduceIte, c4]
    · cases h
      simp -implicitDefEqProofs only [go_sem, Nat.reduceEqDiff, Nat.reduceAdd, Nat.reduceLT, Nat.reduceLeDiff, Nat.reduceMul, Nat.reduceBEq, reduceIte, c4]
      rw [hR3]
      simp -implicitDefEqProofs only [go_sem, Nat.reduceEqDiff, Nat.reduceAdd, Nat.reduceLT, Nat.reduceLeDiff, Nat.reduceMul, Nat.reduceBEq, reduceIte, c4]
  · replace h := h; clear hz
    rintro s i
    rw [hR3] at i
    obtain ⟨gi5, i5⟩ := i
    clear hR3
    try dsimp only at h
    rcases ib h with ⟨c6, h⟩ | ⟨c6, h⟩
    · obtain ⟨r7, hr7, h⟩ := bs h
      simp -implicitDefEqProofs only [go_sem, Nat.reduceEqDiff, Nat.reduceAdd, Nat.reduceLT, Nat.reduceLeDiff, Nat.reduceMul, Nat.reduceBEq, reduceIte, gi5, i5, c6]
      try refine gCall_eta gi5 ?_
      refine call_frz (r' := .p (.bool r7)) (args := []) (caps := []) (m_law15_awake_ev  r7 hr7 (d + 1) empty) (wkRs_refl []) rfl (by simp -implicitDefEqProofs only [go_sem, Nat.reduceEqDiff, Nat.reduceAdd, Nat.reduceLT, Nat.reduceLeDiff, Nat.reduceMul, Nat.reduceBEq, reduceIte]) (by simp -implicitDefEqProofs only [go_sem, Nat.reduceEqDiff, Nat.reduceAdd, Nat.reduceLT, Nat.reduceLeDiff, Nat.reduceMul, Nat.reduceBEq, reduceIte]) ?_ rfl rfl
      cases h
      subst hQ
      simp -implicitDefEqProofs only [go_sem, Nat.reduceEqDiff, Nat.reduceAdd, Nat.reduceLT, Nat.reduceLeDiff, Nat.reduceMul, Nat.reduceBEq, reduceIte, gi5, i5, c6, Try.results3]
    · obtain ⟨r8, hr8, h⟩ := bs h
      simp -implicitDefEqProofs only [go_sem, Nat.reduceEqDiff, Nat.reduceAdd, Nat.reduceLT, Nat.reduceLeDiff, Nat.reduceMul, Nat.reduceBEq, reduceIte, gi5, i5, c6]
      try refine gCall_eta gi5 ?_
      refine call_frz (r' := .agg [.p (.int .i64 r8.f0), .p (.int .i64 r8.f1.f0), .p (.int .i64 r8.f1.f1), .p (.int .i64 r8.f2), .p (.int .u32 r8.f3)]) (args := []) (caps := []) (m_perm_Own_ev  r8 hr8 (d + 1) empty) (wkRs_refl []) rfl (by simp -implicitDefEqProofs only [go_sem, Nat.reduceEqDiff, Nat.reduceAdd, Nat.reduceLT, Nat.reduceLeDiff, Nat.reduceMul, Nat.reduceBEq, reduceIte]) (by simp -implicitDefEqProofs only [go_sem, Nat.reduceEqDiff, Nat.reduceAdd, Nat.reduceLT, Nat.reduceLeDiff, Nat.reduceMul, Nat.reduceBEq, reduceIte]) ?_ rfl rfl
      simp -implicitDefEqProofs only [go_sem, Nat.reduceEqDiff, Nat.reduceAdd, Nat.reduceLT, Nat.reduceLeDiff, Nat.reduceMul, Nat.reduceBEq, reduceIte, gi5, i5, c6]
      obtain ⟨z13, hL13, h⟩ := bs h
      obtain ⟨I13, hI13⟩ : ∃ I : (Int × (List TPerm)) → St → Prop, I = fun a s => match a with | (v14, v15) => s.G = fillKey (cut d G) (d + 1) 27 (arO ((v15 : List TPerm).map cTPerm)) ∧ s.F 0 = .p (.sl (a0.map ciu8)) ∧ s.F 1 = .p (.sl (a1.map ciu8)) ∧ s.F 5 = arV ((v15 : List TPerm).map cTPerm) (d + 1, 27, 0) 5 ∧ s.F 6 = .p (.int .i64 v14) ∧ True := ⟨_, rfl⟩
      obtain ⟨R13, hR13⟩ : ∃ R : ((List TPerm)) → GE → St → Prop, R = fun v16 e s => e = .exit 0 ∧ s.G = fillKey (cut d G) (d + 1) 27 (arO ((v16 : List TPerm).map cTPerm)) ∧ s.F 5 = arV ((v16 : List TPerm).map cTPerm) (d + 1, 27, 0) 5 ∧ True := ⟨_, rfl⟩
      refine lp (ts := [10, 11, 85]) rfl hL13 I13 R13 ?_ ?_ ?_
      · rw [hI13]
        simp -implicitDefEqProofs only [go_sem, Nat.reduceEqDiff, Nat.reduceAdd, Nat.reduceLT, Nat.reduceLeDiff, Nat.reduceMul, Nat.reduceBEq, reduceIte, gi5, i5, c6]
      · clear h hL13
        rintro ⟨v14, v15⟩ y s h i
        rw [hI13] at i
        obtain ⟨gi13, i13⟩ := i
        replace h : m_law15_PermKeeps_L0 a0 a1 (v14, v15) = some y := h
        unfold m_law15_PermKeeps_L0 at h
        rcases ib h with ⟨c17, h⟩ | ⟨c17, h⟩
        · simp -implicitDefEqProofs only [go_sem, Nat.reduceEqDiff, Nat.reduceAdd, Nat.reduceLT, Nat.reduceLeDiff, Nat.reduceMul, Nat.reduceBEq, reduceIte, gi5, i5, c6, gi13, i13, c17]
          obtain ⟨v18, hz, h⟩ := bs h
          obtain ⟨R19, hR19⟩ : ∃ R : St → Prop, R = fun s => s.G = fillKey (cut d G) (d + 1) 27 (arO ((v15 : List TPerm).map cTPerm)) ∧ s.F 0 = .p (.sl (a0.map ciu8)) ∧ s.F 1 = .p (.sl (a1.map ciu8)) ∧ s.F 5 = arV ((v15 : List TPerm).map cTPerm) (d + 1, 27, 0) 5 ∧ s.F 6 = .p (.int .i64 v14) ∧ s.F 7 = .p (.int .i64 v18) ∧ True := ⟨_, rfl⟩
          refine cutG R19 ?_ ?_
          · replace h := hz
            rcases ib h with ⟨c20, h⟩ | ⟨c20, h⟩
            · obtain ⟨_, c21, h⟩ := bs h
              replace c21 := rqs c21
              obtain ⟨v22, hv22, h⟩ := bs h
              replace hv22 := gis hv22
              obtain ⟨_, c23, h⟩ := bs h
              replace c23 := rqs c23
              cases h
              simp -implicitDefEqProofs only [go_sem, Nat.reduceEqDiff, Nat.reduceAdd, Nat.reduceLT, Nat.reduceLeDiff, Nat.reduceMul, Nat.reduceBEq, reduceIte, gi5, i5, c6, gi13, i13, c17, c20, c21, hv22, c23]
              rw [hR19]
              simp -implicitDefEqProofs only [go_sem, Nat.reduceEqDiff, Nat.reduceAdd, Nat.reduceLT, Nat.reduceLeDiff, Nat.reduceMul, Nat.reduceBEq, reduceIte, gi5, i5, c6, gi13, i13, c17, c20, c21, hv22, c23]
            · cases h
              simp -implicitDefEqProofs only [go_sem, Nat.reduceEqDiff, Nat.reduceAdd, Nat.reduceLT, Nat.reduceLeDiff, Nat.reduceMul, Nat.reduceBEq, reduceIte, gi5, i5, c6, gi13, i13, c17, c20]
              rw [hR19]
              simp -implicitDefEqProofs only [go_sem, Nat.reduceEqDiff, Nat.reduceAdd, Nat.reduceLT, Nat.reduceLeDiff, Nat.reduceMul, Nat.reduceBEq, reduceIte, gi5, i5, c6, gi13, i13, c17, c20]
          · replace h := h; clear hz
            rintro s i
            rw [hR19] at i
            obtain ⟨gi24, i24⟩ := i
            clear hR19
            try dsimp only at h
            obtain ⟨v25, hv25, h⟩ := bs h
            replace hv25 := gis hv25
            obtain ⟨_, c26, h⟩ := bs h
            replace c26 := rqs c26
            obtain ⟨_, c27, h⟩ := bs h
            replace c27 := rqs c27
            obtain ⟨_, c28, h⟩ := bs h
            replace c28 := rqs c28
            have c29 := ne_of_idx c27 c28
            obtain ⟨v30, hv30, h⟩ := bs h
            replace hv30 := gis hv30
            simp -implicitDefEqProofs only [go_sem, Nat.reduceEqDiff, Nat.reduceAdd, Nat.reduceLT, Nat.reduceLeDiff, Nat.reduceMul, Nat.reduceBEq, reduceIte, gi5, i5, c6, gi13, i13, c17, gi24, i24, hv25, c26, c27, c28, c29, hv30]
            obtain ⟨v31, hz, h⟩ := bs h
            obtain ⟨R32, hR32⟩ : ∃ R : St → Prop, R = fun s => s.G = fillKey (cut d G) (d + 1) 27 (arO ((v15 : List TPerm).map cTPerm)) ∧ s.F 0 = .p (.sl (a0.map ciu8)) ∧ s.F 1 = .p (.sl (a1.map ciu8)) ∧ s.F 5 = arV ((v15 : List TPerm).map cTPerm) (d + 1, 27, 0) 5 ∧ s.F 6 = .p (.int .i64 v14) ∧ s.F 7 = .p (.int .i64 v18) ∧ s.F 8 = .p (.int .u32 0) ∧ s.F 9 = .p (.int .i64 (Int.tmod (IntKind.wrap .i64 v25) 5)) ∧ s.F 63 = .p (.bool v31) ∧ True := ⟨_, rfl⟩
            refine cutR R32 ?_ ?_
            · replace h := hz
              rcases ib h with ⟨c33, h⟩ | ⟨c33, h⟩
              · cases h
                simp -implicitDefEqProofs only [go_sem, Nat.reduceEqDiff, Nat.reduceAdd, Nat.reduceLT, Nat.reduceLeDiff, Nat.reduceMul, Nat.reduceBEq, reduceIte, gi5, i5, c6, gi13, i13, c17, gi24, i24, hv25, c26, c27, c28, c29, hv30, c33]
                rw [hR32]
                simp -implicitDefEqProofs only [go_sem, Nat.reduceEqDiff, Nat.reduceAdd, Nat.reduceLT, Nat.reduceLeDiff, Nat.reduceMul, Nat.reduceBEq, reduceIte, gi5, i5, c6, gi13, i13, c17, gi24, i24, hv25, c26, c27, c28, c29, hv30, c33]
              · cases h
                simp -implicitDefEqProofs only [go_sem, Nat.reduceEqDiff, Nat.reduceAdd, Nat.reduceLT, Nat.reduceLeDiff, Nat.reduceMul, Nat.reduceBEq, reduceIte, gi5, i5, c6, gi13, i13, c17, gi24, i24, hv25, c26, c27, c28, c29, hv30, c33]
                rw [hR32]
                simp -implicitDefEqProofs only [go_sem, Nat.reduceEqDiff, Nat.reduceAdd, Nat.reduceLT, Nat.reduceLeDiff, Nat.reduceMul, Nat.reduceBEq, reduceIte, gi5, i5, c6, gi13, i13, c17, gi24, i24, hv25, c26, c27, c28, c29, hv30, c33]
            · replace h := h; clear hz
              rintro s i
              rw [hR32] at i
              obtain ⟨gi34, i34⟩ := i
              clear hR32
              try dsimp only at h
              simp -implicitDefEqProofs only [go_sem, Nat.reduceEqDiff, Nat.reduceAdd, Nat.reduceLT, Nat.reduceLeDiff, Nat.reduceMul, Nat.reduceBEq, reduceIte, gi5, i5, c6, gi13, i13, c17, gi24, i24, hv25, c26, c27, c28, c29, hv30, gi34, i34]
              obtain ⟨v35, hz, h⟩ := bs h
              obtain ⟨R36, hR36⟩ : ∃ R : St → Prop, R = fun s => s.G = fillKey (cut d G) (d + 1) 27 (arO ((v15 : List TPerm).map cTPerm)) ∧ s.F 0 = .p (.sl (a0.map ciu8)) ∧ s.F 1 = .p (.sl (a1.map ciu8)) ∧ s.F 5 = arV ((v15 : List TPerm).map cTPerm) (d + 1, 27, 0) 5 ∧ s.F 6 = .p (.int .i64 v14) ∧ s.F 7 = .p (.int .i64 v18) ∧ s.F 8 = .p (.int .u32 v35) ∧ s.F 9 = .p (.int .i64 (Int.tmod (IntKind.wrap .i64 v25) 5)) ∧ True := ⟨_, rfl⟩
              refine cutG R36 ?_ ?_
              · replace h := hz
                rcases ib h with ⟨c37, h⟩ | ⟨c37, h⟩
                · cases h
                  simp -implicitDefEqProofs only [go_sem, Nat.reduceEqDiff, Nat.reduceAdd, Nat.reduceLT, Nat.reduceLeDiff, Nat.reduceMul, Nat.reduceBEq, reduceIte, gi5, i5, c6, gi13, i13, c17, gi24, i24, hv25, c26, c27, c28, c29, hv30, gi34, i34, c37]
                  rw [hR36]
                  simp -implicitDefEqProofs only [go_sem, Nat.reduceEqDiff, Nat.reduceAdd, Nat.reduceLT, Nat.reduceLeDiff, Nat.reduceMul, Nat.reduceBEq, reduceIte, gi5, i5, c6, gi13, i13, c17, gi24, i24, hv25, c26, c27, c28, c29, hv30, gi34, i34, c37]
                · cases h
                  simp -implicitDefEqProofs only [go_sem, Nat.reduceEqDiff, Nat.reduceAdd, Nat.reduceLT, Nat.reduceLeDiff, Nat.reduceMul, Nat.reduceBEq, reduceIte, gi5, i5, c6, gi13, i13, c17, gi24, i24, hv25, c26, c27, c28, c29, hv30, gi34, i34, c37]
                  rw [hR36]
                  simp -implicitDefEqProofs only [go_sem, Nat.reduceEqDiff, Nat.reduceAdd, Nat.reduceLT, Nat.reduceLeDiff, Nat.reduceMul, Nat.reduceBEq, reduceIte, gi5, i5, c6, gi13, i13, c17, gi24, i24, hv25, c26, c27, c28, c29, hv30, gi34, i34, c37]
              · replace h := h; clear hz
                rintro s i
                rw [hR36] at i
                obtain ⟨gi38, i38⟩ := i
                clear hR36
                try dsimp only at h
                obtain ⟨r39, hr39, h⟩ := bs h
                simp -implicitDefEqProofs only [go_sem, Nat.reduceEqDiff, Nat.reduceAdd, Nat.reduceLT, Nat.reduceLeDiff, Nat.reduceMul, Nat.reduceBEq, reduceIte, gi5, i5, c6, gi13, i13, c17, gi24, i24, hv25, c26, c27, c28, c29, hv30, gi34, i34, gi38, i38]
                refine call_frz (r' := .tup [.agg [.p (.int .i64 r39.1.f0), .p (.int .i64 r39.1.f1.f0), .p (.int .i64 r39.1.f1.f1), .p (.int .i64 r39.1.f2), .p (.int .u32 r39.1.f3)], .agg [.p (.int .i64 r39.2.1.f0), .p (.int .i64 r39.2.1.f1.f0), .p (.int .i64 r39.2.1.f1.f1), .p (.int .i64 r39.2.1.f2), .p (.int .u32 r39.2.1.f3)], .p (.int .i64 r39.2.2)]) (m_perm_Split_ev v30 (Int.tmod (IntKind.wrap .i64 v25) 5) (⟨1, 2⟩ : TRat) v35 r39 hr39 (d + 1) empty) (by simp -implicitDefEqProofs only [go_sem, Nat.reduceEqDiff, Nat.reduceAdd, Nat.reduceLT, Nat.reduceLeDiff, Nat.reduceMul, Nat.reduceBEq, reduceIte, gi5, i5, c6, gi13, i13, c17, gi24, i24, hv25, c26, c27, c28, c29, hv30, gi34, i34, gi38, i38]) rfl (by simp -implicitDefEqProofs only [go_sem, Nat.reduceEqDiff, Nat.reduceAdd, Nat.reduceLT, Nat.reduceLeDiff, Nat.reduceMul, Nat.reduceBEq, reduceIte]) (by simp -implicitDefEqProofs only [go_sem, Nat.reduceEqDiff, Nat.reduceAdd, Nat.reduceLT, Nat.reduceLeDiff, Nat.reduceMul, Nat.reduceBEq, reduceIte]) ?_ rfl rfl
                rcases ib h with ⟨c40, h⟩ | ⟨c40, h⟩
                · cases h
                  simp -implicitDefEqProofs only [go_sem, Nat.reduceEqDiff, Nat.reduceAdd, Nat.reduceLT, Nat.reduceLeDiff, Nat.reduceMul, Nat.reduceBEq, reduceIte, gi5, i5, c6, gi13, i13, c17, gi24, i24, hv25, c26, c27, c28, c29, hv30, gi34, i34, gi38, i38, c40]
                  rw [hI13]
                  simp -implicitDefEqProofs only [go_sem, Nat.reduceEqDiff, Nat.reduceAdd, Nat.reduceLT, Nat.reduceLeDiff, Nat.reduceMul, Nat.reduceBEq, reduceIte, gi5, i5, c6, gi13, i13, c17, gi24, i24, hv25, c26, c27, c28, c29, hv30, gi34, i34, gi38, i38, c40]
                · obtain ⟨_, c41, h⟩ := bs h
                  replace c41 := rqs c41
                  simp -implicitDefEqProofs only [go_sem, Nat.reduceEqDiff, Nat.reduceAdd, Nat.reduceLT, Nat.reduceLeDiff, Nat.reduceMul, Nat.reduceBEq, reduceIte, gi5, i5, c6, gi13, i13, c17, gi24, i24, hv25, c26, c27, c28, c29, hv30, gi34, i34, gi38, i38, c40, c41]
                  refine append_B (l := ((v15.set v18.toNat r39.1) : List TPerm)) (m := ([r39.2.1] : List TPerm)) (c := cTPerm) (he := el30) (hx := by simp -implicitDefEqProofs only [go_sem, Nat.reduceEqDiff, Nat.reduceAdd, Nat.reduceLT, Nat.reduceLeDiff, Nat.reduceMul, Nat.reduceBEq, reduceIte, gi5, i5, c6, gi13, i13, c17, gi24, i24, hv25, c26, c27, c28, c29, hv30, gi34, i34, gi38, i38, c40, c41]) (hc := fun _ => rfl) (hm := by simp) (ha := rfl) (hb := by simpa using c41) (hbb := by decide) (hG := by simp -implicitDefEqProofs only [go_sem, Nat.reduceEqDiff, Nat.reduceAdd, Nat.reduceLT, Nat.reduceLeDiff, Nat.reduceMul, Nat.reduceBEq, reduceIte, gi5, i5, c6, gi13, i13, c17, gi24, i24, hv25, c26, c27, c28, c29, hv30, gi34, i34, gi38, i38, c40, c41]) (hq := by simp -implicitDefEqProofs only [go_sem, Nat.reduceEqDiff, Nat.reduceAdd, Nat.reduceLT, Nat.reduceLeDiff, Nat.reduceMul, Nat.reduceBEq, reduceIte, gi5, i5, c6, gi13, i13, c17, gi24, i24, hv25, c26, c27, c28, c29, hv30, gi34, i34, gi38, i38, c40, c41]) ?_
                  have c42 : (((v15.set v18.toNat r39.1) ++ ([r39.2.1])) : List TPerm) ≠ [] := by simp
                  cases h
                  simp -implicitDefEqProofs only [go_sem, Nat.reduceEqDiff, Nat.reduceAdd, Nat.reduceLT, Nat.reduceLeDiff, Nat.reduceMul, Nat.reduceBEq, reduceIte, gi5, i5, c6, gi13, i13, c17, gi24, i24, hv25, c26, c27, c28, c29, hv30, gi34, i34, gi38, i38, c40, c41, c42]
                  rw [hI13]
                  simp -implicitDefEqProofs only [go_sem, Nat.reduceEqDiff, Nat.reduceAdd, Nat.reduceLT, Nat.reduceLeDiff, Nat.reduceMul, Nat.reduceBEq, reduceIte, gi5, i5, c6, gi13, i13, c17, gi24, i24, hv25, c26, c27, c28, c29, hv30, gi34, i34, gi38, i38, c40, c41, c42]
        · cases h
          simp -implicitDefEqProofs only [go_sem, Nat.reduceEqDiff, Nat.reduceAdd, Nat.reduceLT, Nat.reduceLeDiff, Nat.reduceMul, Nat.reduceBEq, reduceIte, gi5, i5, c6, gi13, i13, c17]
          rw [hR13]
          refine ⟨rfl, ?_⟩
          simp -implicitDefEqProofs only [go_sem, Nat.reduceEqDiff, Nat.reduceAdd, Nat.reduceLT, Nat.reduceLeDiff, Nat.reduceMul, Nat.reduceBEq, reduceIte, gi5, i5, c6, gi13, i13, c17]
      · clear hL13 hI13
        intro e s hr13
        rw [hR13] at hr13
        clear hR13
        revert h hr13
        generalize z13 = v16
        intro h hr13
        try dsimp only at h hr13
        obtain ⟨rfl, gi43, i43⟩ := hr13
        simp -implicitDefEqProofs only [go_sem, Nat.reduceEqDiff, Nat.reduceAdd, Nat.reduceLT, Nat.reduceLeDiff, Nat.reduceMul, Nat.reduceBEq, reduceIte, gi5, i5, c6, gi43, i43]
        obtain ⟨z52, hL52, h⟩ := bs h
        obtain ⟨I52, hI52⟩ : ∃ I : (Int × (List Int) × Int × Int) → St → Prop, I = fun a s => match a with | (v53, v54, v55, v56) => s.G = fillKey (fillKey (fillKey (cut d G) (d + 1) 13 [.box (v54.map (gI .i64))]) (d + 1) 14 [.box [.p (.int .i64 v55), .p (.int .i64 v56)]]) (d + 1) 27 (arO ((v16 : List TPerm).map cTPerm)) ∧ s.F 5 = arV ((v16 : List TPerm).map cTPerm) (d + 1, 27, 0) 5 ∧ s.F 13 = .bp (d + 1, 13, 0) 0 ∧ s.F 14 = .bp (d + 1, 14, 0) 0 ∧ s.F 15 = .p (.int .i64 v53) ∧ True := ⟨_, rfl⟩
        obtain ⟨R52, hR52⟩ : ∃ R : (((List Int) × Int × Int) ⊕ (Bool)) → GE → St → Prop, R = fun x e s => match x with | .inl (v57, v58, v59) => e = .exit 2 ∧ s.G = fillKey (fillKey (fillKey (cut d G) (d + 1) 13 [.box (v57.map (gI .i64))]) (d + 1) 14 [.box [.p (.int .i64 v58), .p (.int .i64 v59)]]) (d + 1) 27 (arO ((v16 : List TPerm).map cTPerm)) ∧ s.F 5 = arV ((v16 : List TPerm).map cTPerm) (d + 1, 27, 0) 5 ∧ s.F 13 = .bp (d + 1, 13, 0) 0 ∧ s.F 14 = .bp (d + 1, 14, 0) 0 ∧ True | .inr r => e = .ret ∧ (r = r0 → Q .ret s) := ⟨_, rfl⟩
        refine lp (ts := [16]) rfl hL52 I52 R52 ?_ ?_ ?_
        · rw [hI52]
          simp -implicitDefEqProofs only [go_sem, Nat.reduceEqDiff, Nat.reduceAdd, Nat.reduceLT, Nat.reduceLeDiff, Nat.reduceMul, Nat.reduceBEq, reduceIte, gi5, i5, c6, gi43, i43]
        · clear h hL52
          rintro ⟨v53, v54, v55, v56⟩ y s h i
          rw [hI52] at i
          obtain ⟨gi52, i52⟩ := i
          replace h : m_law15_PermKeeps_L1 v16 (v53, v54, v55, v56) = some y := h
          unfold m_law15_PermKeeps_L1 at h
          rcases ib h with ⟨c60, h⟩ | ⟨c60, h⟩
          · obtain ⟨_, c61, h⟩ := bs h
            replace c61 := rqs c61
            obtain ⟨_, c62, h⟩ := bs h
            replace c62 := rqs c62
            have c63 := ne_of_idx c61 c62
            obtain ⟨v64, hv64, h⟩ := bs h
            replace hv64 := gis hv64
            obtain ⟨_, c65, h⟩ := bs h
            replace c65 := rqs c65
            obtain ⟨_, c66, h⟩ := bs h
            replace c66 := rqs c66
            obtain ⟨v67, hv67, h⟩ := bs h
            replace hv67 := gis hv67
            obtain ⟨_, c68, h⟩ := bs h
            replace c68 := rqs c68
            have c69 := lt_toNat c65 c68
            obtain ⟨r70, hr70, h⟩ := bs h
            simp -implicitDefEqProofs only [go_sem, Nat.reduceEqDiff, Nat.reduceAdd, Nat.reduceLT, Nat.reduceLeDiff, Nat.reduceMul, Nat.reduceBEq, reduceIte, gi5, i5, c6, gi43, i43, gi52, i52, c60, c61, c62, c63, hv64, c65, c66, hv67, c68, c69]
            refine call_frz (r' := .tup [.agg [.p (.int .i64 r70.1.f0), .p (.int .i64 r70.1.f1)], .p (.int .i64 r70.2)]) (m_ref01_Do_ev 0 (⟨v55, v56⟩ : TRat) v64.f1 r70 hr70 (d + 1) empty) (by simp -implicitDefEqProofs only [go_sem, Nat.reduceEqDiff, Nat.reduceAdd, Nat.reduceLT, Nat.reduceLeDiff, Nat.reduceMul, Nat.reduceBEq, reduceIte, gi5, i5, c6, gi43, i43, gi52, i52, c60, c61, c62, c63, hv64, c65, c66, hv67, c68, c69]) rfl (by simp -implicitDefEqProofs only [go_sem, Nat.reduceEqDiff, Nat.reduceAdd, Nat.reduceLT, Nat.reduceLeDiff, Nat.reduceMul, Nat.reduceBEq, reduceIte]) (by simp -implicitDefEqProofs only [go_sem, Nat.reduceEqDiff, Nat.reduceAdd, Nat.reduceLT, Nat.reduceLeDiff, Nat.reduceMul, Nat.reduceBEq, reduceIte]) ?_ rfl rfl
            rcases ib h with ⟨c71, h⟩ | ⟨c71, h⟩
            · cases h
              simp -implicitDefEqProofs only [go_sem, Nat.reduceEqDiff, Nat.reduceAdd, Nat.reduceLT, Nat.reduceLeDiff, Nat.reduceMul, Nat.reduceBEq, reduceIte, gi5, i5, c6, gi43, i43, gi52, i52, c60, c61, c62, c63, hv64, c65, c66, hv67, c68, c69, c71]
              rw [hR52]
              refine ⟨rfl, ?_⟩
              intro hr
              subst hr
              subst hQ
              simp -implicitDefEqProofs only [go_sem, Nat.reduceEqDiff, Nat.reduceAdd, Nat.reduceLT, Nat.reduceLeDiff, Nat.reduceMul, Nat.reduceBEq, reduceIte, gi5, i5, c6, gi43, i43, gi52, i52, c60, c61, c62, c63, hv64, c65, c66, hv67, c68, c69, c71, Try.results3]
            · cases h
              simp -implicitDefEqProofs only [go_sem, Nat.reduceEqDiff, Nat.reduceAdd, Nat.reduceLT, Nat.reduceLeDiff, Nat.reduceMul, Nat.reduceBEq, reduceIte, gi5, i5, c6, gi43, i43, gi52, i52, c60, c61, c62, c63, hv64, c65, c66, hv67, c68, c69, c71]
              rw [hI52]
              simp -implicitDefEqProofs only [go_sem, Nat.reduceEqDiff, Nat.reduceAdd, Nat.reduceLT, Nat.reduceLeDiff, Nat.reduceMul, Nat.reduceBEq, reduceIte, gi5, i5, c6, gi43, i43, gi52, i52, c60, c61, c62, c63, hv64, c65, c66, hv67, c68, c69, c71]
          · cases h
            simp -implicitDefEqProofs only [go_sem, Nat.reduceEqDiff, Nat.reduceAdd, Nat.reduceLT, Nat.reduceLeDiff, Nat.reduceMul, Nat.reduceBEq, reduceIte, gi5, i5, c6, gi43, i43, gi52, i52, c60]
            rw [hR52]
            refine ⟨rfl, ?_⟩
            simp -implicitDefEqProofs only [go_sem, Nat.reduceEqDiff, Nat.reduceAdd, Nat.reduceLT, Nat.reduceLeDiff, Nat.reduceMul, Nat.reduceBEq, reduceIte, gi5, i5, c6, gi43, i43, gi52, i52, c60]
        · clear hL52 hI52
          intro e s hr52
          rw [hR52] at hr52
          clear hR52
          rcases z52 with ⟨v57, v58, v59⟩ | r
          · try dsimp only at h hr52
            obtain ⟨rfl, gi72, i72⟩ := hr52
            simp -implicitDefEqProofs only [go_sem, Nat.reduceEqDiff, Nat.reduceAdd, Nat.reduceLT, Nat.reduceLeDiff, Nat.reduceMul, Nat.reduceBEq, reduceIte, gi5, i5, c6, gi43, i43, gi72, i72]
            refine eqS_TRat (⟨v58, v59⟩ : TRat) (⟨1, 1⟩ : TRat) ?_
            simp -implicitDefEqProofs only [go_sem, Nat.reduceEqDiff, Nat.reduceAdd, Nat.reduceLT, Nat.reduceLeDiff, Nat.reduceMul, Nat.reduceBEq, reduceIte, gi5, i5, c6, gi43, i43, gi72, i72]
            obtain ⟨v73, hz, h⟩ := bs h
            obtain ⟨R74, hR74⟩ : ∃ R : St → Prop, R = fun s => s.G = fillKey (fillKey (fillKey (cut d G) (d + 1) 13 [.box (v57.map (gI .i64))]) (d + 1) 14 [.box [.p (.int .i64 v58), .p (.int .i64 v59)]]) (d + 1) 27 (arO ((v16 : List TPerm).map cTPerm)) ∧ s.F 13 = .bp (d + 1, 13, 0) 0 ∧ s.F 132 = .p (.bool v73) ∧ True := ⟨_, rfl⟩
            refine cutR R74 ?_ ?_
            · replace h := hz
              rcases ib h with ⟨c75, h⟩ | ⟨c75, h⟩
              · cases h
                simp -implicitDefEqProofs only [go_sem, Nat.reduceEqDiff, Nat.reduceAdd, Nat.reduceLT, Nat.reduceLeDiff, Nat.reduceMul, Nat.reduceBEq, reduceIte, gi5, i5, c6, gi43, i43, gi72, i72, c75]
                rw [hR74]
                simp -implicitDefEqProofs only [go_sem, Nat.reduceEqDiff, Nat.reduceAdd, Nat.reduceLT, Nat.reduceLeDiff, Nat.reduceMul, Nat.reduceBEq, reduceIte, gi5, i5, c6, gi43, i43, gi72, i72, c75]
              · obtain ⟨_, c76, h⟩ := bs h
                replace c76 := rqs c76
                obtain ⟨_, c77, h⟩ := bs h
                replace c77 := rqs c77
                obtain ⟨v78, hv78, h⟩ := bs h
                replace hv78 := gis hv78
                rcases ib h with ⟨c79, h⟩ | ⟨c79, h⟩
                · rcases ib h with ⟨c80, h⟩ | ⟨c80, h⟩
                  · cases h
                    simp -implicitDefEqProofs only [go_sem, Nat.reduceEqDiff, Nat.reduceAdd, Nat.reduceLT, Nat.reduceLeDiff, Nat.reduceMul, Nat.reduceBEq, reduceIte, gi5, i5, c6, gi43, i43, gi72, i72, c75, c76, c77, hv78, c79, c80]
                    rw [hR74]
                    simp -implicitDefEqProofs only [go_sem, Nat.reduceEqDiff, Nat.reduceAdd, Nat.reduceLT, Nat.reduceLeDiff, Nat.reduceMul, Nat.reduceBEq, reduceIte, gi5, i5, c6, gi43, i43, gi72, i72, c75, c76, c77, hv78, c79, c80]
                  · obtain ⟨_, c81, h⟩ := bs h
                    replace c81 := rqs c81
                    obtain ⟨_, c82, h⟩ := bs h
                    replace c82 := rqs c82
                    obtain ⟨v83, hv83, h⟩ := bs h
                    replace hv83 := gis hv83
                    cases h
                    simp -implicitDefEqProofs only [go_sem, Nat.reduceEqDiff, Nat.reduceAdd, Nat.reduceLT, Nat.reduceLeDiff, Nat.reduceMul, Nat.reduceBEq, reduceIte, gi5, i5, c6, gi43, i43, gi72, i72, c75, c76, c77, hv78, c79, c80, c81, c82, hv83]
                    rw [hR74]
                    simp -implicitDefEqProofs only [go_sem, Nat.reduceEqDiff, Nat.reduceAdd, Nat.reduceLT, Nat.reduceLeDiff, Nat.reduceMul, Nat.reduceBEq, reduceIte, gi5, i5, c6, gi43, i43, gi72, i72, c75, c76, c77, hv78, c79, c80, c81, c82, hv83]
                · obtain ⟨_, c84, h⟩ := bs h
                  replace c84 := rqs c84
                  obtain ⟨_, c85, h⟩ := bs h
                  replace c85 := rqs c85
                  obtain ⟨v86, hv86, h⟩ := bs h
                  replace hv86 := gis hv86
                  cases h
                  simp -implicitDefEqProofs only [go_sem, Nat.reduceEqDiff, Nat.reduceAdd, Nat.reduceLT, Nat.reduceLeDiff, Nat.reduceMul, Nat.reduceBEq, reduceIte, gi5, i5, c6, gi43, i43, gi72, i72, c75, c76, c77, hv78, c79, c84, c85, hv86]
                  rw [hR74]
                  simp -implicitDefEqProofs only [go_sem, Nat.reduceEqDiff, Nat.reduceAdd, Nat.reduceLT, Nat.reduceLeDiff, Nat.reduceMul, Nat.reduceBEq, reduceIte, gi5, i5, c6, gi43, i43, gi72, i72, c75, c76, c77, hv78, c79, c84, c85, hv86]
            · replace h := h; clear hz
              rintro s i
              rw [hR74] at i
              obtain ⟨gi87, i87⟩ := i
              clear hR74
              try dsimp only at h
              rcases ib h with ⟨c88, h⟩ | ⟨c88, h⟩
              · cases h
                subst hQ
                simp -implicitDefEqProofs only [go_sem, Nat.reduceEqDiff, Nat.reduceAdd, Nat.reduceLT, Nat.reduceLeDiff, Nat.reduceMul, Nat.reduceBEq, reduceIte, gi5, i5, c6, gi43, i43, gi72, i72, gi87, i87, c88, Try.results3]
              · obtain ⟨_, c89, h⟩ := bs h
                replace c89 := rqs c89
                obtain ⟨_, c90, h⟩ := bs h
                replace c90 := rqs c90
                obtain ⟨v91, hv91, h⟩ := bs h
                replace hv91 := gis hv91
                rcases ib h with ⟨c92, h⟩ | ⟨c92, h⟩
                · obtain ⟨_, c93, h⟩ := bs h
                  replace c93 := rqs c93
                  obtain ⟨_, c94, h⟩ := bs h
                  replace c94 := rqs c94
                  obtain ⟨v95, hv95, h⟩ := bs h
                  replace hv95 := gis hv95
                  rcases ib h with ⟨c96, h⟩ | ⟨c96, h⟩
                  · cases h
                    subst hQ
                    simp -implicitDefEqProofs only [go_sem, Nat.reduceEqDiff, Nat.reduceAdd, Nat.reduceLT, Nat.reduceLeDiff, Nat.reduceMul, Nat.reduceBEq, reduceIte, gi5, i5, c6, gi43, i43, gi72, i72, gi87, i87, c88, c89, c90, hv91, c92, c93, c94, hv95, c96, Try.results3]
                  · obtain ⟨_, c97, h⟩ := bs h
                    replace c97 := rqs c97
                    obtain ⟨_, c98, h⟩ := bs h
                    replace c98 := rqs c98
                    obtain ⟨v99, hv99, h⟩ := bs h
                    replace hv99 := gis hv99
                    rcases ib h with ⟨c100, h⟩ | ⟨c100, h⟩
                    · rcases ib h with ⟨c101, h⟩ | ⟨c101, h⟩
                      · simp only [c101, beq_tt, tt_beq, beq_ff, ff_beq, Bool.not_true, Bool.not_false, not_not_b, Bool.true_eq_false, Bool.false_eq_true] at c100
                      · cases h
                        subst hQ
                        simp -implicitDefEqProofs only [go_sem, Nat.reduceEqDiff, Nat.reduceAdd, Nat.reduceLT, Nat.reduceLeDiff, Nat.reduceMul, Nat.reduceBEq, reduceIte, gi5, i5, c6, gi43, i43, gi72, i72, gi87, i87, c88, c89, c90, hv91, c92, c93, c94, hv95, c96, c97, c98, hv99, c100, c101, Try.results3]
                    · cases h
                      subst hQ
                      simp -implicitDefEqProofs only [go_sem, Nat.reduceEqDiff, Nat.reduceAdd, Nat.reduceLT, Nat.reduceLeDiff, Nat.reduceMul, Nat.reduceBEq, reduceIte, gi5, i5, c6, gi43, i43, gi72, i72, gi87, i87, c88, c89, c90, hv91, c92, c93, c94, hv95, c96, c97, c98, hv99, c100, Try.results3]
                · obtain ⟨_, c102, h⟩ := bs h
                  replace c102 := rqs c102
                  obtain ⟨_, c103, h⟩ := bs h
                  replace c103 := rqs c103
                  obtain ⟨v104, hv104, h⟩ := bs h
                  replace hv104 := gis hv104
                  rcases ib h with ⟨c105, h⟩ | ⟨c105, h⟩
                  · obtain ⟨_, c106, h⟩ := bs h
                    replace c106 := rqs c106
                    obtain ⟨_, c107, h⟩ := bs h
                    replace c107 := rqs c107
                    obtain ⟨v108, hv108, h⟩ := bs h
                    replace hv108 := gis hv108
                    rcases ib h with ⟨c109, h⟩ | ⟨c109, h⟩
                    · rcases ib h with ⟨c110, h⟩ | ⟨c110, h⟩
                      · simp only [c110, beq_tt, tt_beq, beq_ff, ff_beq, Bool.not_true, Bool.not_false, not_not_b, Bool.true_eq_false, Bool.false_eq_true] at c109
                      · cases h
                        subst hQ
                        simp -implicitDefEqProofs only [go_sem, Nat.reduceEqDiff, Nat.reduceAdd, Nat.reduceLT, Nat.reduceLeDiff, Nat.reduceMul, Nat.reduceBEq, reduceIte, gi5, i5, c6, gi43, i43, gi72, i72, gi87, i87, c88, c89, c90, hv91, c92, c102, c103, hv104, c105, c106, c107, hv108, c109, c110, Try.results3]
                    · cases h
                      subst hQ
                      simp -implicitDefEqProofs only [go_sem, Nat.reduceEqDiff, Nat.reduceAdd, Nat.reduceLT, Nat.reduceLeDiff, Nat.reduceMul, Nat.reduceBEq, reduceIte, gi5, i5, c6, gi43, i43, gi72, i72, gi87, i87, c88, c89, c90, hv91, c92, c102, c103, hv104, c105, c106, c107, hv108, c109, Try.results3]
                  · obtain ⟨_, c111, h⟩ := bs h
                    replace c111 := rqs c111
                    obtain ⟨_, c112, h⟩ := bs h
                    replace c112 := rqs c112
                    obtain ⟨v113, hv113, h⟩ := bs h
                    replace hv113 := gis hv113
                    rcases ib h with ⟨c114, h⟩ | ⟨c114, h⟩
                    · obtain ⟨_, c115, h⟩ := bs h
                      replace c115 := rqs c115
                      obtain ⟨_, c116, h⟩ := bs h
                      replace c116 := rqs c116
                      obtain ⟨v117, hv117, h⟩ := bs h
                      replace hv117 := gis hv117
                      cases h
                      subst hQ
                      simp -implicitDefEqProofs only [go_sem, Nat.reduceEqDiff, Nat.reduceAdd, Nat.reduceLT, Nat.reduceLeDiff, Nat.reduceMul, Nat.reduceBEq, reduceIte, gi5, i5, c6, gi43, i43, gi72, i72, gi87, i87, c88, c89, c90, hv91, c92, c102, c103, hv104, c105, c111, c112, hv113, c114, c115, c116, hv117, Try.results3]
                    · cases h
                      subst hQ
                      simp -implicitDefEqProofs only [go_sem, Nat.reduceEqDiff, Nat.reduceAdd, Nat.reduceLT, Nat.reduceLeDiff, Nat.reduceMul, Nat.reduceBEq, reduceIte, gi5, i5, c6, gi43, i43, gi72, i72, gi87, i87, c88, c89, c90, hv91, c92, c102, c103, hv104, c105, c111, c112, hv113, c114, Try.results3]
          · try dsimp only at h hr52
            obtain ⟨rfl, hr52⟩ := hr52
            cases h
            try simp -implicitDefEqProofs only [go_sem, Nat.reduceEqDiff, Nat.reduceAdd, Nat.reduceLT, Nat.reduceLeDiff, Nat.reduceMul, Nat.reduceBEq, reduceIte]
            exact hr52 rfl
end Go.E
