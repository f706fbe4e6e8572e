import Derived.Test.YthgohaidfaldnaaMT1
set_option linter.all false
set_option maxRecDepth 100000
namespace Go.E
open Go Go.Proofs Go.Eng
variable {TB : Nat → Option Obj}
theorem m_auto_Auto_Ops_ev (a0 : Option TAuto_Auto) (r0 : (List ByteArray)) (h : m_auto_Auto_Ops a0 = some r0) (d : Nat) (G : Heap) : Tel Try.prog TB d 21 [.p (encP cTAuto_Auto a0)] G (.p (.sl (r0.map cstr))) G := by
  unfold m_auto_Auto_Ops at h
  refine Tel.intro mix Try.func21 rfl (Nat.le_of_ble_eq_true rfl) {frzAt := fun t => t == 19, clean := fun r => if r = 3 then [5] else []} (by kernel_rfl) (by kernel_rfl) ?_
  generalize hQ : callPost _ _ _ _ _ = Q
  obtain ⟨v1, hv1, h⟩ := bs h
  simp -implicitDefEqProofs only [go_sem, Nat.reduceEqDiff, Nat.reduceAdd, Nat.reduceLT, Nat.reduceLeDiff, Nat.reduceMul, Nat.reduceBEq, reduceIte, hv1]
  obtain ⟨z8, hL8, h⟩ := bs h
  obtain ⟨I8, hI8⟩ : ∃ I : ((List ByteArray) × Int) → St → Prop, I = fun a s => match a with | (v9, v11) => ∃ o10, s.G = fillKey (cut d G) (d + 1) 25 (growO o10 25 1 (v9.map cstr)) ∧ growOK o10 [25] ∧ s.F 3 = growV o10 (d + 1) (v9.map cstr) ∧ s.F 10 = .p (.sl (v1.f0.f2.map cTMove)) ∧ s.F 11 = .p (.int .i64 (v1.f0.f2.length : Int)) ∧ s.F 12 = .p (.int .i64 v11) ∧ True := ⟨_, rfl⟩
  obtain ⟨R8, hR8⟩ : ∃ R : ((List ByteArray)) → GE → St → Prop, R = fun v12 e s => e = .exit 0 ∧ (∃ o13, s.G = fillKey (cut d G) (d + 1) 25 (growO o13 25 1 (v12.map cstr)) ∧ growOK o13 [25] ∧ s.F 3 = growV o13 (d + 1) (v12.map cstr) ∧ True) := ⟨_, rfl⟩
  refine lp (ts := [5]) rfl hL8 I8 R8 ?_ ?_ ?_
  · rw [hI8]
    refine ⟨none, ?_⟩
    simp -implicitDefEqProofs only [go_sem, Nat.reduceEqDiff, Nat.reduceAdd, Nat.reduceLT, Nat.reduceLeDiff, Nat.reduceMul, Nat.reduceBEq, reduceIte, hv1]
  · clear h hL8
    rintro ⟨v9, v11⟩ y s h i
    rw [hI8] at i
    obtain ⟨o10, gi8, ko10, i8⟩ := i
    replace h : m_auto_Auto_Ops_L0 v1 (v9, v11) = some y := h
    unfold m_auto_Auto_Ops_L0 at h
    rcases ib h with ⟨c14, h⟩ | ⟨c14, h⟩
    · obtain ⟨v15, hv15, h⟩ := bs h
      replace hv15 := gis hv15
      obtain ⟨r16, hr16, h⟩ := bs h
      simp -implicitDefEqProofs only [go_sem, Nat.reduceEqDiff, Nat.reduceAdd, Nat.reduceLT, Nat.reduceLeDiff, Nat.reduceMul, Nat.reduceBEq, reduceIte, hv1, gi8, ko10, i8, c14, hv15]
      refine call_frz (r' := .p (.bool r16)) (m_slices_Contains_string_ev v9 v15.f0 r16 hr16 (d + 1) empty) (by simp -implicitDefEqProofs only [go_sem, Nat.reduceEqDiff, Nat.reduceAdd, Nat.reduceLT, Nat.reduceLeDiff, Nat.reduceMul, Nat.reduceBEq, reduceIte, hv1, gi8, ko10, i8, c14, hv15]) rfl (by simp -implicitDefEqProofs only [go_sem, Nat.reduceEqDiff, Nat.reduceAdd, Nat.reduceLT, Nat.reduceLeDiff, Nat.reduceMul, Nat.reduceBEq, reduceIte]) (by simp -implicitDefEqProofs only [go_sem, Nat.reduceEqDiff, Nat.reduceAdd, Nat.reduceLT, Nat.reduceLeDiff, Nat.reduceMul, Nat.reduceBEq, reduceIte]) ?_ rfl rfl
      simp -implicitDefEqProofs only [go_sem, Nat.reduceEqDiff, Nat.reduceAdd, Nat.reduceLT, Nat.reduceLeDiff, Nat.reduceMul, Nat.reduceBEq, reduceIte, hv1, gi8, ko10, i8, c14, hv15]
      obtain ⟨v17, hz, h⟩ := bs h
      obtain ⟨R19, hR19⟩ : ∃ R : St → Prop, R = fun s => ∃ o18, s.G = fillKey (fillKey (cut d G) (d + 1) 5 [.box [.p (.str v15.f0), .p (.int .i64 v15.f1), .p (.sl (v15.f2.map cTOut))]]) (d + 1) 25 (growO o18 25 1 (v17.map cstr)) ∧ growOK o18 [25] ∧ s.F 3 = growV o18 (d + 1) (v17.map cstr) ∧ s.F 10 = .p (.sl (v1.f0.f2.map cTMove)) ∧ s.F 11 = .p (.int .i64 (v1.f0.f2.length : Int)) ∧ s.F 12 = .p (.int .i64 v11) ∧ True := ⟨_, rfl⟩
      refine cutG R19 ?_ ?_
      · replace h := hz
        rcases ib h with ⟨c20, h⟩ | ⟨c20, h⟩
        · obtain ⟨_, c21, h⟩ := bs h
          replace c21 := rqs c21
          simp -implicitDefEqProofs only [go_sem, Nat.reduceEqDiff, Nat.reduceAdd, Nat.reduceLT, Nat.reduceLeDiff, Nat.reduceMul, Nat.reduceBEq, reduceIte, hv1, gi8, ko10, i8, c14, hv15, c20, c21]
          refine append_G (o := o10) (ts := [25]) (es := (v9 : List ByteArray).map cstr) (xs := ([v15.f0] : List ByteArray).map cstr) (ho := growOK.sub ko10 (by decide)) (hG := by simp -implicitDefEqProofs only [go_sem, Nat.reduceEqDiff, Nat.reduceAdd, Nat.reduceLT, Nat.reduceLeDiff, Nat.reduceMul, Nat.reduceBEq, reduceIte, hv1, gi8, ko10, i8, c14, hv15, c20, c21]) (hj := by simp -implicitDefEqProofs only [go_sem, Nat.reduceEqDiff, Nat.reduceAdd, Nat.reduceLT, Nat.reduceLeDiff, Nat.reduceMul, Nat.reduceBEq, reduceIte]) (he := el47) (hx := by simp -implicitDefEqProofs only [go_sem, Nat.reduceEqDiff, Nat.reduceAdd, Nat.reduceLT, Nat.reduceLeDiff, Nat.reduceMul, Nat.reduceBEq, reduceIte, hv1, gi8, ko10, i8, c14, hv15, c20, c21]) (h1 := by simp -implicitDefEqProofs only [go_sem, Nat.reduceEqDiff, Nat.reduceAdd, Nat.reduceLT, Nat.reduceLeDiff, Nat.reduceMul, Nat.reduceBEq, reduceIte]) (h2 := by simp -implicitDefEqProofs only [go_sem, Nat.reduceEqDiff, Nat.reduceAdd, Nat.reduceLT, Nat.reduceLeDiff, Nat.reduceMul, Nat.reduceBEq, reduceIte]) (ha := rfl) (hra := rfl) (hb := by simpa using c21) (hbb := by decide) ?_
          intro o22 ko22
          cases h
          simp -implicitDefEqProofs only [go_sem, Nat.reduceEqDiff, Nat.reduceAdd, Nat.reduceLT, Nat.reduceLeDiff, Nat.reduceMul, Nat.reduceBEq, reduceIte, hv1, gi8, ko10, i8, c14, hv15, c20, c21, ko22]
          rw [hR19]
          refine ⟨o22, ?_⟩
          simp -implicitDefEqProofs only [go_sem, Nat.reduceEqDiff, Nat.reduceAdd, Nat.reduceLT, Nat.reduceLeDiff, Nat.reduceMul, Nat.reduceBEq, reduceIte, hv1, gi8, ko10, i8, c14, hv15, c20, c21, ko22]
        · cases h
          simp -implicitDefEqProofs only [go_sem, Nat.reduceEqDiff, Nat.reduceAdd, Nat.reduceLT, Nat.reduceLeDiff, Nat.reduceMul, Nat.reduceBEq, reduceIte, hv1, gi8, ko10, i8, c14, hv15, c20]
          rw [hR19]
          refine ⟨o10, ?_⟩
          simp -implicitDefEqProofs only [go_sem, Nat.reduceEqDiff, Nat.reduceAdd, Nat.reduceLT, Nat.reduceLeDiff, Nat.reduceMul, Nat.reduceBEq, reduceIte, hv1, gi8, ko10, i8, c14, hv15, c20]
      · replace h := h; clear hz
        rintro s i
        rw [hR19] at i
        obtain ⟨o18, gi23, ko18, i23⟩ := i
        clear hR19
        try dsimp only at h
        cases h
        simp -implicitDefEqProofs only [go_sem, Nat.reduceEqDiff, Nat.reduceAdd, Nat.reduceLT, Nat.reduceLeDiff, Nat.reduceMul, Nat.reduceBEq, reduceIte, hv1, gi8, ko10, i8, c14, hv15, gi23, ko18, i23]
        rw [hI8]
        refine ⟨o18, ?_⟩
        simp -implicitDefEqProofs only [go_sem, Nat.reduceEqDiff, Nat.reduceAdd, Nat.reduceLT, Nat.reduceLeDiff, Nat.reduceMul, Nat.reduceBEq, reduceIte, hv1, gi8, ko10, i8, c14, hv15, gi23, ko18, i23, poison_grow (d := d + 1) (ts := [5]) ko18 (by decide)]
    · cases h
      simp -implicitDefEqProofs only [go_sem, Nat.reduceEqDiff, Nat.reduceAdd, Nat.reduceLT, Nat.reduceLeDiff, Nat.reduceMul, Nat.reduceBEq, reduceIte, hv1, gi8, ko10, i8, c14]
      rw [hR8]
      refine ⟨rfl, o10, ?_⟩
      simp -implicitDefEqProofs only [go_sem, Nat.reduceEqDiff, Nat.reduceAdd, Nat.reduceLT, Nat.reduceLeDiff, Nat.reduceMul, Nat.reduceBEq, reduceIte, hv1, gi8, ko10, i8, c14]
  · clear hL8 hI8
    intro e s hr8
    rw [hR8] at hr8
    clear hR8
    revert h hr8
    generalize z8 = v12
    intro h hr8
    try dsimp only at h hr8
    obtain ⟨rfl, o13, gi24, ko13, i24⟩ := hr8
    cases h
    subst hQ
    simp -implicitDefEqProofs only [go_sem, Nat.reduceEqDiff, Nat.reduceAdd, Nat.reduceLT, Nat.reduceLeDiff, Nat.reduceMul, Nat.reduceBEq, reduceIte, hv1, gi24, ko13, i24, Try.results21]
theorem m_auto_Auto_Outcomes_ev (a0 : Option TAuto_Auto) (a1 : ByteArray) (r0 : (List ByteArray)) (h : m_auto_Auto_Outcomes a0 a1 = some r0) (d : Nat) (G : Heap) : Tel Try.prog TB d 20 [.p (encP cTAuto_Auto a0), .p (.str a1)] G (.p (.sl (r0.map cstr))) G := by
  unfold m_auto_Auto_Outcomes at h
  refine Tel.intro mix Try.func20 rfl (Nat.le_of_ble_eq_true rfl) {frzAt := fun t => t == 35, clean := fun r => if r = 3 then [7, 9] else if r = 6 then [9] else []} (by kernel_rfl) (by kernel_rfl) ?_
  generalize hQ : callPost _ _ _ _ _ = Q
  obtain ⟨v1, hv1, h⟩ := bs h
  simp -implicitDefEqProofs only [go_sem, Nat.reduceEqDiff, Nat.reduceAdd, Nat.reduceLT, Nat.reduceLeDiff, Nat.reduceMul, Nat.reduceBEq, reduceIte, hv1]
  obtain ⟨z8, hL8, h⟩ := bs h
  obtain ⟨I8, hI8⟩ : ∃ I : ((List ByteArray) × Int) → St → Prop, I = fun a s => match a with | (v9, v11) => ∃ o10, s.G = fillKey (cut d G) (d + 1) 42 (growO o10 42 1 (v9.map cstr)) ∧ growOK o10 [42] ∧ s.F 1 = .p (.str a1) ∧ s.F 5 = growV o10 (d + 1) (v9.map cstr) ∧ s.F 14 = .p (.sl (v1.f0.f2.map cTMove)) ∧ s.F 15 = .p (.int .i64 (v1.f0.f2.length : Int)) ∧ s.F 16 = .p (.int .i64 v11) ∧ True := ⟨_, rfl⟩
  obtain ⟨R8, hR8⟩ : ∃ R : ((List ByteArray)) → GE → St → Prop, R = fun v12 e s => e = .exit 0 ∧ (∃ o13, s.G = fillKey (cut d G) (d + 1) 42 (growO o13 42 1 (v12.map cstr)) ∧ growOK o13 [42] ∧ s.F 5 = growV o13 (d + 1) (v12.map cstr) ∧ True) := ⟨_, rfl⟩
  refine lp (ts := [7, 9]) rfl hL8 I8 R8 ?_ ?_ ?_
  · rw [hI8]
    refine ⟨none, ?_⟩
    simp -implicitDefEqProofs only [go_sem, Nat.reduceEqDiff, Nat.reduceAdd, Nat.reduceLT, Nat.reduceLeDiff, Nat.reduceMul, Nat.reduceBEq, reduceIte, hv1]
  · clear h hL8
    rintro ⟨v9, v11⟩ y s h i
    rw [hI8] at i
    obtain ⟨o10, gi8, ko10, i8⟩ := i
    replace h : m_auto_Auto_Outcomes_L0 v1 a1 (v9, v11) = some y := h
    unfold m_auto_Auto_Outcomes_L0 at h
    rcases ib h with ⟨c14, h⟩ | ⟨c14, h⟩
    · obtain ⟨v15, hv15, h⟩ := bs h
      replace hv15 := gis hv15
      simp -implicitDefEqProofs only [go_sem, Nat.reduceEqDiff, Nat.reduceAdd, Nat.reduceLT, Nat.reduceLeDiff, Nat.reduceMul, Nat.reduceBEq, reduceIte, hv1, gi8, ko10, i8, c14, hv15]
      obtain ⟨z22, hL22, h⟩ := bs h
      obtain ⟨I22, hI22⟩ : ∃ I : ((List ByteArray) × Int) → St → Prop, I = fun a s => match a with | (v23, v25) => ∃ o24, s.G = fillKey (fillKey (cut d G) (d + 1) 7 [.box [.p (.str v15.f0), .p (.int .i64 v15.f1), .p (.sl (v15.f2.map cTOut))]]) (d + 1) 42 (growO o24 42 1 (v23.map cstr)) ∧ growOK o24 [42] ∧ s.F 1 = .p (.str a1) ∧ s.F 5 = growV o24 (d + 1) (v23.map cstr) ∧ s.F 7 = .bp (d + 1, 7, 0) 0 ∧ s.F 14 = .p (.sl (v1.f0.f2.map cTMove)) ∧ s.F 15 = .p (.int .i64 (v1.f0.f2.length : Int)) ∧ s.F 16 = .p (.int .i64 v11) ∧ s.F 21 = .p (.sl (v15.f2.map cTOut)) ∧ s.F 22 = .p (.int .i64 (v15.f2.length : Int)) ∧ s.F 23 = .p (.int .i64 v25) ∧ True := ⟨_, rfl⟩
      obtain ⟨R22, hR22⟩ : ∃ R : ((List ByteArray)) → GE → St → Prop, R = fun v26 e s => e = .exit 2 ∧ (∃ o27, s.G = fillKey (fillKey (cut d G) (d + 1) 7 [.box [.p (.str v15.f0), .p (.int .i64 v15.f1), .p (.sl (v15.f2.map cTOut))]]) (d + 1) 42 (growO o27 42 1 (v26.map cstr)) ∧ growOK o27 [42] ∧ s.F 1 = .p (.str a1) ∧ s.F 5 = growV o27 (d + 1) (v26.map cstr) ∧ s.F 14 = .p (.sl (v1.f0.f2.map cTMove)) ∧ s.F 15 = .p (.int .i64 (v1.f0.f2.length : Int)) ∧ s.F 16 = .p (.int .i64 v11) ∧ True) := ⟨_, rfl⟩
      refine lp (ts := [9]) rfl hL22 I22 R22 ?_ ?_ ?_
      · rw [hI22]
        refine ⟨o10, ?_⟩
        simp -implicitDefEqProofs only [go_sem, Nat.reduceEqDiff, Nat.reduceAdd, Nat.reduceLT, Nat.reduceLeDiff, Nat.reduceMul, Nat.reduceBEq, reduceIte, hv1, gi8, ko10, i8, c14, hv15, poison_grow (d := d + 1) (ts := [9]) ko10 (by decide)]
      · clear h hL22
        rintro ⟨v23, v25⟩ y s h i
        rw [hI22] at i
        obtain ⟨o24, gi22, ko24, i22⟩ := i
        replace h : m_auto_Auto_Outcomes_L1 v15 a1 (v23, v25) = some y := h
        unfold m_auto_Auto_Outcomes_L1 at h
        rcases ib h with ⟨c28, h⟩ | ⟨c28, h⟩
        · obtain ⟨v29, hv29, h⟩ := bs h
          replace hv29 := gis hv29
          simp -implicitDefEqProofs only [go_sem, Nat.reduceEqDiff, Nat.reduceAdd, Nat.reduceLT, Nat.reduceLeDiff, Nat.reduceMul, Nat.reduceBEq, reduceIte, hv1, gi8, ko10, i8, c14, hv15, gi22, ko24, i22, c28, hv29]
          obtain ⟨v30, hz, h⟩ := bs h
          obtain ⟨R31, hR31⟩ : ∃ R : St → Prop, R = fun s => s.G = fillKey (fillKey (fillKey (cut d G) (d + 1) 7 [.box [.p (.str v15.f0), .p (.int .i64 v15.f1), .p (.sl (v15.f2.map cTOut))]]) (d + 1) 9 [.box [.p (.str v29.f0), .p (.int .i64 v29.f1)]]) (d + 1) 42 (growO o24 42 1 (v23.map cstr)) ∧ s.F 1 = .p (.str a1) ∧ s.F 5 = growV o24 (d + 1) (v23.map cstr) ∧ s.F 7 = .bp (d + 1, 7, 0) 0 ∧ s.F 9 = .bp (d + 1, 9, 0) 0 ∧ s.F 14 = .p (.sl (v1.f0.f2.map cTMove)) ∧ s.F 15 = .p (.int .i64 (v1.f0.f2.length : Int)) ∧ s.F 16 = .p (.int .i64 v11) ∧ s.F 21 = .p (.sl (v15.f2.map cTOut)) ∧ s.F 22 = .p (.int .i64 (v15.f2.length : Int)) ∧ s.F 23 = .p (.int .i64 v25) ∧ s.F 37 = .p (.bool v30) ∧ True := ⟨_, rfl⟩
          refine cutR R31 ?_ ?_
          · replace h := hz
            rcases ib h with ⟨c32, h⟩ | ⟨c32, h⟩
            · obtain ⟨r33, hr33, h⟩ := bs h
              simp -implicitDefEqProofs only [go_sem, Nat.reduceEqDiff, Nat.reduceAdd, Nat.reduceLT, Nat.reduceLeDiff, Nat.reduceMul, Nat.reduceBEq, reduceIte, hv1, gi8, ko10, i8, c14, hv15, gi22, ko24, i22, c28, hv29, c32]
              refine call_frz (r' := .p (.bool r33)) (m_slices_Contains_string_ev v23 v29.f0 r33 hr33 (d + 1) empty) (by simp -implicitDefEqProofs only [go_sem, Nat.reduceEqDiff, Nat.reduceAdd, Nat.reduceLT, Nat.reduceLeDiff, Nat.reduceMul, Nat.reduceBEq, reduceIte, hv1, gi8, ko10, i8, c14, hv15, gi22, ko24, i22, c28, hv29, c32]) rfl (by simp -implicitDefEqProofs only [go_sem, Nat.reduceEqDiff, Nat.reduceAdd, Nat.reduceLT, Nat.reduceLeDiff, Nat.reduceMul, Nat.reduceBEq, reduceIte]) (by simp -implicitDefEqProofs only [go_sem, Nat.reduceEqDiff, Nat.reduceAdd, Nat.reduceLT, Nat.reduceLeDiff, Nat.reduceMul, Nat.reduceBEq, reduceIte]) ?_ rfl rfl
              cases h
              simp -implicitDefEqProofs only [go_sem, Nat.reduceEqDiff, Nat.reduceAdd, Nat.reduceLT, Nat.reduceLeDiff, Nat.reduceMul, Nat.reduceBEq, reduceIte, hv1, gi8, ko10, i8, c14, hv15, gi22, ko24, i22, c28, hv29, c32]
              rw [hR31]
              simp -implicitDefEqProofs only [go_sem, Nat.reduceEqDiff, Nat.reduceAdd, Nat.reduceLT, Nat.reduceLeDiff, Nat.reduceMul, Nat.reduceBEq, reduceIte, hv1, gi8, ko10, i8, c14, hv15, gi22, ko24, i22, c28, hv29, c32]
            · cases h
              simp -implicitDefEqProofs only [go_sem, Nat.reduceEqDiff, Nat.reduceAdd, Nat.reduceLT, Nat.reduceLeDiff, Nat.reduceMul, Nat.reduceBEq, reduceIte, hv1, gi8, ko10, i8, c14, hv15, gi22, ko24, i22, c28, hv29, c32]
              rw [hR31]
              simp -implicitDefEqProofs only [go_sem, Nat.reduceEqDiff, Nat.reduceAdd, Nat.reduceLT, Nat.reduceLeDiff, Nat.reduceMul, Nat.reduceBEq, reduceIte, hv1, gi8, ko10, i8, c14, hv15, gi22, ko24, i22, c28, hv29, c32]
          · replace h := h; clear hz
            rintro s i
            rw [hR31] at i
            obtain ⟨gi34, i34⟩ := i
            clear hR31
            try dsimp only at h
            simp -implicitDefEqProofs only [go_sem, Nat.reduceEqDiff, Nat.reduceAdd, Nat.reduceLT, Nat.reduceLeDiff, Nat.reduceMul, Nat.reduceBEq, reduceIte, hv1, gi8, ko10, i8, c14, hv15, gi22, ko24, i22, c28, hv29, gi34, i34]
            obtain ⟨v35, hz, h⟩ := bs h
            obtain ⟨R37, hR37⟩ : ∃ R : St → Prop, R = fun s => ∃ o36, s.G = fillKey (fillKey (fillKey (cut d G) (d + 1) 7 [.box [.p (.str v15.f0), .p (.int .i64 v15.f1), .p (.sl (v15.f2.map cTOut))]]) (d + 1) 9 [.box [.p (.str v29.f0), .p (.int .i64 v29.f1)]]) (d + 1) 42 (growO o36 42 1 (v35.map cstr)) ∧ growOK o36 [42] ∧ s.F 1 = .p (.str a1) ∧ s.F 5 = growV o36 (d + 1) (v35.map cstr) ∧ s.F 7 = .bp (d + 1, 7, 0) 0 ∧ s.F 14 = .p (.sl (v1.f0.f2.map cTMove)) ∧ s.F 15 = .p (.int .i64 (v1.f0.f2.length : Int)) ∧ s.F 16 = .p (.int .i64 v11) ∧ s.F 21 = .p (.sl (v15.f2.map cTOut)) ∧ s.F 22 = .p (.int .i64 (v15.f2.length : Int)) ∧ s.F 23 = .p (.int .i64 v25) ∧ True := ⟨_, rfl⟩
            refine cutG R37 ?_ ?_
            · replace h := hz
              rcases ib h with ⟨c38, h⟩ | ⟨c38, h⟩
              · obtain ⟨_, c39, h⟩ := bs h
                replace c39 := rqs c39
                simp -implicitDefEqProofs only [go_sem, Nat.reduceEqDiff, Nat.reduceAdd, Nat.reduceLT, Nat.reduceLeDiff, Nat.reduceMul, Nat.reduceBEq, reduceIte, hv1, gi8, ko10, i8, c14, hv15, gi22, ko24, i22, c28, hv29, gi34, i34, c38, c39]
                refine append_G (o := o24) (ts := [42]) (es := (v23 : List ByteArray).map cstr) (xs := ([v29.f0] : List ByteArray).map cstr) (ho := growOK.sub ko24 (by decide)) (hG := by simp -implicitDefEqProofs only [go_sem, Nat.reduceEqDiff, Nat.reduceAdd, Nat.reduceLT, Nat.reduceLeDiff, Nat.reduceMul, Nat.reduceBEq, reduceIte, hv1, gi8, ko10, i8, c14, hv15, gi22, ko24, i22, c28, hv29, gi34, i34, c38, c39]) (hj := by simp -implicitDefEqProofs only [go_sem, Nat.reduceEqDiff, Nat.reduceAdd, Nat.reduceLT, Nat.reduceLeDiff, Nat.reduceMul, Nat.reduceBEq, reduceIte]) (he := el47) (hx := by simp -implicitDefEqProofs only [go_sem, Nat.reduceEqDiff, Nat.reduceAdd, Nat.reduceLT, Nat.reduceLeDiff, Nat.reduceMul, Nat.reduceBEq, reduceIte, hv1, gi8, ko10, i8, c14, hv15, gi22, ko24, i22, c28, hv29, gi34, i34, c38, c39]) (h1 := by simp -implicitDefEqProofs only [go_sem, Nat.reduceEqDiff, Nat.reduceAdd, Nat.reduceLT, Nat.reduceLeDiff, Nat.reduceMul, Nat.reduceBEq, reduceIte]) (h2 := by simp -implicitDefEqProofs only [go_sem, Nat.reduceEqDiff, Nat.reduceAdd, Nat.reduceLT, Nat.reduceLeDiff, Nat.reduceMul, Nat.reduceBEq, reduceIte]) (ha := rfl) (hra := rfl) (hb := by simpa using c39) (hbb := by decide) ?_
                intro o40 ko40
                cases h
                simp -implicitDefEqProofs only [go_sem, Nat.reduceEqDiff, Nat.reduceAdd, Nat.reduceLT, Nat.reduceLeDiff, Nat.reduceMul, Nat.reduceBEq, reduceIte, hv1, gi8, ko10, i8, c14, hv15, gi22, ko24, i22, c28, hv29, gi34, i34, c38, c39, ko40]
                rw [hR37]
                refine ⟨o40, ?_⟩
                simp -implicitDefEqProofs only [go_sem, Nat.reduceEqDiff, Nat.reduceAdd, Nat.reduceLT, Nat.reduceLeDiff, Nat.reduceMul, Nat.reduceBEq, reduceIte, hv1, gi8, ko10, i8, c14, hv15, gi22, ko24, i22, c28, hv29, gi34, i34, c38, c39, ko40]
              · cases h
                simp -implicitDefEqProofs only [go_sem, Nat.reduceEqDiff, Nat.reduceAdd, Nat.reduceLT, Nat.reduceLeDiff, Nat.reduceMul, Nat.reduceBEq, reduceIte, hv1, gi8, ko10, i8, c14, hv15, gi22, ko24, i22, c28, hv29, gi34, i34, c38]
                rw [hR37]
                refine ⟨o24, ?_⟩
                simp -implicitDefEqProofs only [go_sem, Nat.reduceEqDiff, Nat.reduceAdd, Nat.reduceLT, Nat.reduceLeDiff, Nat.reduceMul, Nat.reduceBEq, reduceIte, hv1, gi8, ko10, i8, c14, hv15, gi22, ko24, i22, c28, hv29, gi34, i34, c38]
            · replace h := h; clear hz
              rintro s i
              rw [hR37] at i
              obtain ⟨o36, gi41, ko36, i41⟩ := i
              clear hR37
              try dsimp only at h
              cases h
              simp -implicitDefEqProofs only [go_sem, Nat.reduceEqDiff, Nat.reduceAdd, Nat.reduceLT, Nat.reduceLeDiff, Nat.reduceMul, Nat.reduceBEq, reduceIte, hv1, gi8, ko10, i8, c14, hv15, gi22, ko24, i22, c28, hv29, gi34, i34, gi41, ko36, i41]
              rw [hI22]
              refine ⟨o36, ?_⟩
              simp -implicitDefEqProofs only [go_sem, Nat.reduceEqDiff, Nat.reduceAdd, Nat.reduceLT, Nat.reduceLeDiff, Nat.reduceMul, Nat.reduceBEq, reduceIte, hv1, gi8, ko10, i8, c14, hv15, gi22, ko24, i22, c28, hv29, gi34, i34, gi41, ko36, i41, poison_grow (d := d + 1) (ts := [9]) ko36 (by decide)]
        · cases h
          simp -implicitDefEqProofs only [go_sem, Nat.reduceEqDiff, Nat.reduceAdd, Nat.reduceLT, Nat.reduceLeDiff, Nat.reduceMul, Nat.reduceBEq, reduceIte, hv1, gi8, ko10, i8, c14, hv15, gi22, ko24, i22, c28]
          rw [hR22]
          refine ⟨rfl, o24, ?_⟩
          simp -implicitDefEqProofs only [go_sem, Nat.reduceEqDiff, Nat.reduceAdd, Nat.reduceLT, Nat.reduceLeDiff, Nat.reduceMul, Nat.reduceBEq, reduceIte, hv1, gi8, ko10, i8, c14, hv15, gi22, ko24, i22, c28]
      · clear hL22 hI22
        intro e s hr22
        rw [hR22] at hr22
        clear hR22
        revert h hr22
        generalize z22 = v26
        intro h hr22
        try dsimp only at h hr22
        obtain ⟨rfl, o27, gi42, ko27, i42⟩ := hr22
        cases h
        simp -implicitDefEqProofs only [go_sem, Nat.reduceEqDiff, Nat.reduceAdd, Nat.reduceLT, Nat.reduceLeDiff, Nat.reduceMul, Nat.reduceBEq, reduceIte, hv1, gi8, ko10, i8, c14, hv15, gi42, ko27, i42]
        rw [hI8]
        refine ⟨o27, ?_⟩
        simp -implicitDefEqProofs only [go_sem, Nat.reduceEqDiff, Nat.reduceAdd, Nat.reduceLT, Nat.reduceLeDiff, Nat.reduceMul, Nat.reduceBEq, reduceIte, hv1, gi8, ko10, i8, c14, hv15, gi42, ko27, i42, poison_grow (d := d + 1) (ts := [7, 9]) ko27 (by decide)]
    · cases h
      simp -implicitDefEqProofs only [go_sem, Nat.reduceEqDiff, Nat.reduceAdd, Nat.reduceLT, Nat.reduceLeDiff, Nat.reduceMul, Nat.reduceBEq, reduceIte, hv1, gi8, ko10, i8, c14]
      rw [hR8]
      refine ⟨rfl, o10, ?_⟩
      simp -implicitDefEqProofs only [go_sem, Nat.reduceEqDiff, Nat.reduceAdd, Nat.reduceLT, Nat.reduceLeDiff, Nat.reduceMul, Nat.reduceBEq, reduceIte, hv1, gi8, ko10, i8, c14]
  · clear hL8 hI8
    intro e s hr8
    rw [hR8] at hr8
    clear hR8
    revert h hr8
    generalize z8 = v12
    intro h hr8
    try dsimp only at h hr8
    obtain ⟨rfl, o13, gi43, ko13, i43⟩ := hr8
    cases h
    subst hQ
    simp -implicitDefEqProofs only [go_sem, Nat.reduceEqDiff, Nat.reduceAdd, Nat.reduceLT, Nat.reduceLeDiff, Nat.reduceMul, Nat.reduceBEq, reduceIte, hv1, gi43, ko13, i43, Try.results20]
theorem m_auto_Auto_State_1_ev (a0 : TState) (u0 : ByteArray) (r0 : Bool) (h : m_auto_Auto_State_1 a0 u0 = some r0) (d : Nat) (G : Heap) : Tel Try.prog TB d 49 [.agg ((cTState a0).map .p), .ep (cstr u0) 0] G (.p (.bool r0)) G := by
  unfold m_auto_Auto_State_1 at h
  refine Tel.intro mix Try.func49 rfl (Nat.le_of_ble_eq_true rfl) {} (by kernel_rfl) (by kernel_rfl) ?_
  generalize hQ : callPost _ _ _ _ _ = Q
  cases h
  subst hQ
  simp -implicitDefEqProofs only [go_sem, Nat.reduceEqDiff, Nat.reduceAdd, Nat.reduceLT, Nat.reduceLeDiff, Nat.reduceMul, Nat.reduceBEq, reduceIte, Try.results49]
theorem m_auto_Auto_State_ev (a0 : Option TAuto_Auto) (a1 : ByteArray) (r0 : Int × Bool) (h : m_auto_Auto_State a0 a1 = some r0) (d : Nat) (G : Heap) : Tel Try.prog TB d 29 [.p (encP cTAuto_Auto a0), .p (.str a1)] G (.tup [.p (.int .i64 r0.1), .p (.bool r0.2)]) G := by
  unfold m_auto_Auto_State at h
  refine Tel.intro mix Try.func29 rfl (Nat.le_of_ble_eq_true rfl) {borAt := fun t => t == 13} (by kernel_rfl) (by kernel_rfl) ?_
  generalize hQ : callPost _ _ _ _ _ = Q
  obtain ⟨v1, hv1, h⟩ := bs h
  obtain ⟨r2, hr2, h⟩ := bs h
  simp -implicitDefEqProofs only [go_sem, Nat.reduceEqDiff, Nat.reduceAdd, Nat.reduceLT, Nat.reduceLeDiff, Nat.reduceMul, Nat.reduceBEq, reduceIte, hv1]
  refine call_look (m_slices_IndexFunc_api_State_ev v1.f0.f1 (fun x0 => m_auto_Auto_State_1 x0 a1) 49 [.ep (cstr a1) 0] (by simp -implicitDefEqProofs only [go_sem, Nat.reduceEqDiff, Nat.reduceAdd, Nat.reduceLT, Nat.reduceLeDiff, Nat.reduceMul, Nat.reduceBEq, reduceIte]) (fun x0 r h d => m_auto_Auto_State_1_ev x0 a1 r h d empty) r2 hr2 (d + 1) empty) (by simp -implicitDefEqProofs only [go_sem, Nat.reduceEqDiff, Nat.reduceAdd, Nat.reduceLT, Nat.reduceLeDiff, Nat.reduceMul, Nat.reduceBEq, reduceIte, hv1]) (by simp -implicitDefEqProofs only [go_sem, Nat.reduceEqDiff, Nat.reduceAdd, Nat.reduceLT, Nat.reduceLeDiff, Nat.reduceMul, Nat.reduceBEq, reduceIte]) (by simp -implicitDefEqProofs only [go_sem, Nat.reduceEqDiff, Nat.reduceAdd, Nat.reduceLT, Nat.reduceLeDiff, Nat.reduceMul, Nat.reduceBEq, reduceIte]) ?_ rfl
  cases h
  subst hQ
  simp -implicitDefEqProofs only [go_sem, Nat.reduceEqDiff, Nat.reduceAdd, Nat.reduceLT, Nat.reduceLeDiff, Nat.reduceMul, Nat.reduceBEq, reduceIte, hv1, Try.results29]
theorem m_slices_Clone_api_Out_ev (a0 : List TOut) (r0 : List TOut) (h : m_slices_Clone_api_Out a0 = some r0) (d : Nat) (G : Heap) : Tel Try.prog TB d 47 [.p (.sl (a0.map cTOut))] G (.p (.sl (r0.map cTOut))) G := by
  unfold m_slices_Clone_api_Out at h
  obtain ⟨_, c1, h⟩ := bs h
  replace c1 := rqs c1
  cases h
  refine Tel.intro_nil mix Try.func47 rfl (by decide) {pureAt := fun t => t == 7} m_slices_Clone_api_Out_A m_slices_Clone_api_Out_B (x := 2) (y := 3) (z := 4) (by decide) (by decide) (by decide) (by kernel_rfl) (by kernel_rfl) (by kernel_rfl) ?_ ?_
  · intro a n m Q w a0 h0 hs h
    have s3 : 3 < a0.tmps.size := by rw [hs]; decide
    refine wp_seq (wp_region ?_)
    show wpOps _ _ _ [0] _ _
    simp only [wpOps, Region.wanted, if_true, List.getElem?_toArray, List.getElem?_cons_zero]
    refine .inl (wp_val (rv := .slice none 0 0) (w' := w) (by simp [execOp, Act.eval]) ?_)
    show Code.wp _ _ _ _ _
    refine wp_seq (wp_seq (wp_region ?_))
    show wpOps _ _ _ [0, 1] _ _
    simp only [wpOps, Region.wanted, if_true, List.getElem?_toArray, List.getElem?_cons_zero, List.getElem?_cons_succ]
    refine .inl (wp_val (rv := .slice a n m) (w' := w) ?_ ?_)
    · have e : (a0.put (some 2) (.slice none 0 0)).tmps.getD 0 undef = .slice a n m := by simpa [Act.put, Array.getD_eq_getD_getElem?] using h0
      show Sem.run _ (pure (Next.value ((a0.put (some 2) (.slice none 0 0)).tmps.getD 0 undef))) w = _
      rw [e]; rfl
    · refine .inl (wp_val (rv := .bool a.isNone) (w' := w) ?_ ?_)
      · have e : ((a0.put (some 2) (.slice none 0 0)).put (some 3) (.slice a n m)).tmps.getD 3 undef = .slice a n m := by simp [Act.put, Array.getD_eq_getD_getElem?, s3]
        have isn := run_equal_slice_nil (P := Try.prog) w 37 42 a n m Try.underlying37
        have e' : ((a0.put (some 2) (.slice none 0 0)).put (some 3) (.slice a n m)).eval (.tmp 3) = .slice a n m := e
        simp only [execOp, e']
        simp [Act.eval, binOp, isn, eqGuard]
      · exact h
  · intro b hb
    show gwp _ _ _ _ m_slices_Clone_api_Out_A _ _
    simp only [m_slices_Clone_api_Out_A, m_slices_Clone_api_Out_B, Try.f47]
    cases b
    · simp -implicitDefEqProofs only [go_sem, Nat.reduceEqDiff, Nat.reduceAdd, Nat.reduceLT, Nat.reduceLeDiff, Nat.reduceMul, Nat.reduceBEq, reduceIte]
      refine append_pure (n := 2) (es := []) (xs := a0.map cTOut) el37 (by simp -implicitDefEqProofs only [go_sem, Nat.reduceEqDiff, Nat.reduceAdd, Nat.reduceLT, Nat.reduceLeDiff, Nat.reduceMul, Nat.reduceBEq, reduceIte]) rfl sizes_nil (by simp -implicitDefEqProofs only [go_sem, Nat.reduceEqDiff, Nat.reduceAdd, Nat.reduceLT, Nat.reduceLeDiff, Nat.reduceMul, Nat.reduceBEq, reduceIte]) (by simp; omega) ?_
      simp -implicitDefEqProofs only [go_sem, Nat.reduceEqDiff, Nat.reduceAdd, Nat.reduceLT, Nat.reduceLeDiff, Nat.reduceMul, Nat.reduceBEq, reduceIte, Try.results47]
    · obtain rfl : a0 = [] := by simpa using hb rfl
      simp -implicitDefEqProofs only [go_sem, Nat.reduceEqDiff, Nat.reduceAdd, Nat.reduceLT, Nat.reduceLeDiff, Nat.reduceMul, Nat.reduceBEq, reduceIte, Try.results47]
theorem m_slices_Clone_api_State_ev (a0 : List TState) (r0 : List TState) (h : m_slices_Clone_api_State a0 = some r0) (d : Nat) (G : Heap) : Tel Try.prog TB d 59 [.p (.sl (a0.map cTState))] G (.p (.sl (r0.map cTState))) G := by
  unfold m_slices_Clone_api_State at h
  obtain ⟨_, c1, h⟩ := bs h
  replace c1 := rqs c1
  cases h
  refine Tel.intro_nil mix Try.func59 rfl (by decide) {pureAt := fun t => t == 7} m_slices_Clone_api_State_A m_slices_Clone_api_State_B (x := 2) (y := 3) (z := 4) (by decide) (by decide) (by decide) (by kernel_rfl) (by kernel_rfl) (by kernel_rfl) ?_ ?_
  · intro a n m Q w a0 h0 hs h
    have s3 : 3 < a0.tmps.size := by rw [hs]; decide
    refine wp_seq (wp_region ?_)
    show wpOps _ _ _ [0] _ _
    simp only [wpOps, Region.wanted, if_true, List.getElem?_toArray, List.getElem?_cons_zero]
    refine .inl (wp_val (rv := .slice none 0 0) (w' := w) (by simp [execOp, Act.eval]) ?_)
    show Code.wp _ _ _ _ _
    refine wp_seq (wp_seq (wp_region ?_))
    show wpOps _ _ _ [0, 1] _ _
    simp only [wpOps, Region.wanted, if_true, List.getElem?_toArray, List.getElem?_cons_zero, List.getElem?_cons_succ]
    refine .inl (wp_val (rv := .slice a n m) (w' := w) ?_ ?_)
    · have e : (a0.put (some 2) (.slice none 0 0)).tmps.getD 0 undef = .slice a n m := by simpa [Act.put, Array.getD_eq_getD_getElem?] using h0
      show Sem.run _ (pure (Next.value ((a0.put (some 2) (.slice none 0 0)).tmps.getD 0 undef))) w = _
      rw [e]; rfl
    · refine .inl (wp_val (rv := .bool a.isNone) (w' := w) ?_ ?_)
      · have e : ((a0.put (some 2) (.slice none 0 0)).put (some 3) (.slice a n m)).tmps.getD 3 undef = .slice a n m := by simp [Act.put, Array.getD_eq_getD_getElem?, s3]
        have isn := run_equal_slice_nil (P := Try.prog) w 22 62 a n m Try.underlying22
        have e' : ((a0.put (some 2) (.slice none 0 0)).put (some 3) (.slice a n m)).eval (.tmp 3) = .slice a n m := e
        simp only [execOp, e']
        simp [Act.eval, binOp, isn, eqGuard]
      · exact h
  · intro b hb
    show gwp _ _ _ _ m_slices_Clone_api_State_A _ _
    simp only [m_slices_Clone_api_State_A, m_slices_Clone_api_State_B, Try.f59]
    cases b
    · simp -implicitDefEqProofs only [go_sem, Nat.reduceEqDiff, Nat.reduceAdd, Nat.reduceLT, Nat.reduceLeDiff, Nat.reduceMul, Nat.reduceBEq, reduceIte]
      refine append_pure (n := 2) (es := []) (xs := a0.map cTState) el22 (by simp -implicitDefEqProofs only [go_sem, Nat.reduceEqDiff, Nat.reduceAdd, Nat.reduceLT, Nat.reduceLeDiff, Nat.reduceMul, Nat.reduceBEq, reduceIte]) rfl sizes_nil (by simp -implicitDefEqProofs only [go_sem, Nat.reduceEqDiff, Nat.reduceAdd, Nat.reduceLT, Nat.reduceLeDiff, Nat.reduceMul, Nat.reduceBEq, reduceIte]) (by simp; omega) ?_
      simp -implicitDefEqProofs only [go_sem, Nat.reduceEqDiff, Nat.reduceAdd, Nat.reduceLT, Nat.reduceLeDiff, Nat.reduceMul, Nat.reduceBEq, reduceIte, Try.results59]
    · obtain rfl : a0 = [] := by simpa using hb rfl
      simp -implicitDefEqProofs only [go_sem, Nat.reduceEqDiff, Nat.reduceAdd, Nat.reduceLT, Nat.reduceLeDiff, Nat.reduceMul, Nat.reduceBEq, reduceIte, Try.results59]
theorem m_slices_Clone_api_Move_ev (a0 : List TMove) (r0 : List TMove) (h : m_slices_Clone_api_Move a0 = some r0) (d : Nat) (G : Heap) : Tel Try.prog TB d 60 [.p (.sl (a0.map cTMove))] G (.p (.sl (r0.map cTMove))) G := by
  unfold m_slices_Clone_api_Move at h
  obtain ⟨_, c1, h⟩ := bs h
  replace c1 := rqs c1
  cases h
  refine Tel.intro_nil mix Try.func60 rfl (by decide) {pureAt := fun t => t == 7} m_slices_Clone_api_Move_A m_slices_Clone_api_Move_B (x := 2) (y := 3) (z := 4) (by decide) (by decide) (by decide) (by kernel_rfl) (by kernel_rfl) (by kernel_rfl) ?_ ?_
  · intro a n m Q w a0 h0 hs h
    have s3 : 3 < a0.tmps.size := by rw [hs]; decide
    refine wp_seq (wp_region ?_)
    show wpOps _ _ _ [0] _ _
    simp only [wpOps, Region.wanted, if_true, List.getElem?_toArray, List.getElem?_cons_zero]
    refine .inl (wp_val (rv := .slice none 0 0) (w' := w) (by simp [execOp, Act.eval]) ?_)
    show Code.wp _ _ _ _ _
    refine wp_seq (wp_seq (wp_region ?_))
    show wpOps _ _ _ [0, 1] _ _
    simp only [wpOps, Region.wanted, if_true, List.getElem?_toArray, List.getElem?_cons_zero, List.getElem?_cons_succ]
    refine .inl (wp_val (rv := .slice a n m) (w' := w) ?_ ?_)
    · have e : (a0.put (some 2) (.slice none 0 0)).tmps.getD 0 undef = .slice a n m := by simpa [Act.put, Array.getD_eq_getD_getElem?] using h0
      show Sem.run _ (pure (Next.value ((a0.put (some 2) (.slice none 0 0)).tmps.getD 0 undef))) w = _
      rw [e]; rfl
    · refine .inl (wp_val (rv := .bool a.isNone) (w' := w) ?_ ?_)
      · have e : ((a0.put (some 2) (.slice none 0 0)).put (some 3) (.slice a n m)).tmps.getD 3 undef = .slice a n m := by simp [Act.put, Array.getD_eq_getD_getElem?, s3]
        have isn := run_equal_slice_nil (P := Try.prog) w 23 39 a n m Try.underlying23
        have e' : ((a0.put (some 2) (.slice none 0 0)).put (some 3) (.slice a n m)).eval (.tmp 3) = .slice a n m := e
        simp only [execOp, e']
        simp [Act.eval, binOp, isn, eqGuard]
      · exact h
  · intro b hb
    show gwp _ _ _ _ m_slices_Clone_api_Move_A _ _
    simp only [m_slices_Clone_api_Move_A, m_slices_Clone_api_Move_B, Try.f60]
    cases b
    · simp -implicitDefEqProofs only [go_sem, Nat.reduceEqDiff, Nat.reduceAdd, Nat.reduceLT, Nat.reduceLeDiff, Nat.reduceMul, Nat.reduceBEq, reduceIte]
      refine append_pure (n := 3) (es := []) (xs := a0.map cTMove) el23 (by simp -implicitDefEqProofs only [go_sem, Nat.reduceEqDiff, Nat.reduceAdd, Nat.reduceLT, Nat.reduceLeDiff, Nat.reduceMul, Nat.reduceBEq, reduceIte]) rfl sizes_nil (by simp -implicitDefEqProofs only [go_sem, Nat.reduceEqDiff, Nat.reduceAdd, Nat.reduceLT, Nat.reduceLeDiff, Nat.reduceMul, Nat.reduceBEq, reduceIte]) (by simp; omega) ?_
      simp -implicitDefEqProofs only [go_sem, Nat.reduceEqDiff, Nat.reduceAdd, Nat.reduceLT, Nat.reduceLeDiff, Nat.reduceMul, Nat.reduceBEq, reduceIte, Try.results60]
    · obtain rfl : a0 = [] := by simpa using hb rfl
      simp -implicitDefEqProofs only [go_sem, Nat.reduceEqDiff, Nat.reduceAdd, Nat.reduceLT, Nat.reduceLeDiff, Nat.reduceMul, Nat.reduceBEq, reduceIte, Try.results60]
theorem m_slices_Clone_api_Move_ar {a0 : List TMove} (hne : a0 ≠ []) (_b : List TMove) (r0 : List TMove) (h : m_slices_Clone_api_Move a0 = some r0) (d : Nat) (G : Heap) : Tel Try.prog TB d 60 [.p (.sl (a0.map cTMove))] G (.oar (r0.map cTMove) 3) G   := by
  unfold m_slices_Clone_api_Move at h
  obtain ⟨_, c1, h⟩ := bs h
  replace c1 := rqs c1
  cases h
  refine Tel.intro_nil mix Try.func60 rfl (by decide) {arrAt := fun t => t == 7} m_slices_Clone_api_Move_A m_slices_Clone_api_Move_B (x := 2) (y := 3) (z := 4) (by decide) (by decide) (by decide) (by kernel_rfl) (by kernel_rfl) (by kernel_rfl) ?_ ?_
  · intro a n m Q w a0 h0 hs h
    have s3 : 3 < a0.tmps.size := by rw [hs]; decide
    refine wp_seq (wp_region ?_)
    show wpOps _ _ _ [0] _ _
    simp only [wpOps, Region.wanted, if_true, List.getElem?_toArray, List.getElem?_cons_zero]
    refine .inl (wp_val (rv := .slice none 0 0) (w' := w) (by simp [execOp, Act.eval]) ?_)
    show Code.wp _ _ _ _ _
    refine wp_seq (wp_seq (wp_region ?_))
    show wpOps _ _ _ [0, 1] _ _
    simp only [wpOps, Region.wanted, if_true, List.getElem?_toArray, List.getElem?_cons_zero, List.getElem?_cons_succ]
    refine .inl (wp_val (rv := .slice a n m) (w' := w) ?_ ?_)
    · have e : (a0.put (some 2) (.slice none 0 0)).tmps.getD 0 undef = .slice a n m := by simpa [Act.put, Array.getD_eq_getD_getElem?] using h0
      show Sem.run _ (pure (Next.value ((a0.put (some 2) (.slice none 0 0)).tmps.getD 0 undef))) w = _
      rw [e]; rfl
    · refine .inl (wp_val (rv := .bool a.isNone) (w' := w) ?_ ?_)
      · have e : ((a0.put (some 2) (.slice none 0 0)).put (some 3) (.slice a n m)).tmps.getD 3 undef = .slice a n m := by simp [Act.put, Array.getD_eq_getD_getElem?, s3]
        have isn := run_equal_slice_nil (P := Try.prog) w 23 39 a n m Try.underlying23
        have e' : ((a0.put (some 2) (.slice none 0 0)).put (some 3) (.slice a n m)).eval (.tmp 3) = .slice a n m := e
        simp only [execOp, e']
        simp [Act.eval, binOp, isn, eqGuard]
      · exact h
  · intro b hb
    show gwp _ _ _ _ m_slices_Clone_api_Move_A _ _
    simp only [m_slices_Clone_api_Move_A, m_slices_Clone_api_Move_B, Try.f60]
    cases b
    · simp -implicitDefEqProofs only [go_sem, Nat.reduceEqDiff, Nat.reduceAdd, Nat.reduceLT, Nat.reduceLeDiff, Nat.reduceMul, Nat.reduceBEq, reduceIte]
      refine append_arr_new (n := 3) (es := []) (xs := a0.map cTMove) el23 (by simp -implicitDefEqProofs only [go_sem, Nat.reduceEqDiff, Nat.reduceAdd, Nat.reduceLT, Nat.reduceLeDiff, Nat.reduceMul, Nat.reduceBEq, reduceIte]) rfl sizes_nil (by simp -implicitDefEqProofs only [go_sem, Nat.reduceEqDiff, Nat.reduceAdd, Nat.reduceLT, Nat.reduceLeDiff, Nat.reduceMul, Nat.reduceBEq, reduceIte]) (by simp; omega) (by simpa using hne) (by simp -implicitDefEqProofs only [go_sem, Nat.reduceEqDiff, Nat.reduceAdd, Nat.reduceLT, Nat.reduceLeDiff, Nat.reduceMul, Nat.reduceBEq, reduceIte]) ?_ rfl
      simp -implicitDefEqProofs only [go_sem, Nat.reduceEqDiff, Nat.reduceAdd, Nat.reduceLT, Nat.reduceLeDiff, Nat.reduceMul, Nat.reduceBEq, reduceIte, Try.results60, List.length_nil, Nat.zero_add]
    · exact absurd (by simpa using hb rfl) hne
theorem m_auto_Auto_Outs_ev (a0 : Option TAuto_Auto) (a1 : Int) (a2 : ByteArray) (r0 : (List TOut)) (h : m_auto_Auto_Outs a0 a1 a2 = some r0) (d : Nat) (G : Heap) : Tel Try.prog TB d 27 [.p (encP cTAuto_Auto a0), .p (.int .i64 a1), .p (.str a2)] G (.p (.sl (r0.map cTOut))) G := by
  unfold m_auto_Auto_Outs at h
  refine Tel.intro mix Try.func27 rfl (Nat.le_of_ble_eq_true rfl) {frzAt := fun t => t == 31, clean := fun r => if r = 2 then [8] else []} (by kernel_rfl) (by kernel_rfl) ?_
  generalize hQ : callPost _ _ _ _ _ = Q
  obtain ⟨v1, hv1, h⟩ := bs h
  simp -implicitDefEqProofs only [go_sem, Nat.reduceEqDiff, Nat.reduceAdd, Nat.reduceLT, Nat.reduceLeDiff, Nat.reduceMul, Nat.reduceBEq, reduceIte, hv1]
  obtain ⟨z4, hL4, h⟩ := bs h
  obtain ⟨I4, hI4⟩ : ∃ I : Int → St → Prop, I = fun v5 s => s.G = cut d G ∧ s.F 1 = .p (.int .i64 a1) ∧ s.F 2 = .p (.str a2) ∧ s.F 13 = .p (.sl (v1.f0.f2.map cTMove)) ∧ s.F 14 = .p (.int .i64 (v1.f0.f2.length : Int)) ∧ s.F 15 = .p (.int .i64 v5) ∧ True := ⟨_, rfl⟩
  obtain ⟨R4, hR4⟩ : ∃ R : ((Unit) ⊕ ((List TOut))) → GE → St → Prop, R = fun x e s => match x with | .inl _ => e = .exit 0 ∧ s.G = cut d G ∧ True | .inr r => e = .ret ∧ (r = r0 → Q .ret s) := ⟨_, rfl⟩
  refine lp (ts := [8]) rfl hL4 I4 R4 ?_ ?_ ?_
  · rw [hI4]
    simp -implicitDefEqProofs only [go_sem, Nat.reduceEqDiff, Nat.reduceAdd, Nat.reduceLT, Nat.reduceLeDiff, Nat.reduceMul, Nat.reduceBEq, reduceIte, hv1]
  · clear h hL4
    rintro v5 y s h i
    rw [hI4] at i
    obtain ⟨gi4, i4⟩ := i
    replace h : m_auto_Auto_Outs_L0 v1 a1 a2 (v5) = some y := h
    unfold m_auto_Auto_Outs_L0 at h
    rcases ib h with ⟨c6, h⟩ | ⟨c6, h⟩
    · obtain ⟨v7, hv7, h⟩ := bs h
      replace hv7 := gis hv7
      simp -implicitDefEqProofs only [go_sem, Nat.reduceEqDiff, Nat.reduceAdd, Nat.reduceLT, Nat.reduceLeDiff, Nat.reduceMul, Nat.reduceBEq, reduceIte, hv1, gi4, i4, c6, hv7]
      obtain ⟨v8, hz, h⟩ := bs h
      obtain ⟨R9, hR9⟩ : ∃ R : St → Prop, R = fun s => s.G = fillKey (cut d G) (d + 1) 8 [.box [.p (.str v7.f0), .p (.int .i64 v7.f1), .p (.sl (v7.f2.map cTOut))]] ∧ s.F 1 = .p (.int .i64 a1) ∧ s.F 2 = .p (.str a2) ∧ s.F 8 = .bp (d + 1, 8, 0) 0 ∧ s.F 13 = .p (.sl (v1.f0.f2.map cTMove)) ∧ s.F 14 = .p (.int .i64 (v1.f0.f2.length : Int)) ∧ s.F 15 = .p (.int .i64 v5) ∧ s.F 28 = .p (.bool v8) ∧ True := ⟨_, rfl⟩
      refine cutR R9 ?_ ?_
      · replace h := hz
        rcases ib h with ⟨c10, h⟩ | ⟨c10, h⟩
        · cases h
          simp -implicitDefEqProofs only [go_sem, Nat.reduceEqDiff, Nat.reduceAdd, Nat.reduceLT, Nat.reduceLeDiff, Nat.reduceMul, Nat.reduceBEq, reduceIte, hv1, gi4, i4, c6, hv7, c10]
          rw [hR9]
          simp -implicitDefEqProofs only [go_sem, Nat.reduceEqDiff, Nat.reduceAdd, Nat.reduceLT, Nat.reduceLeDiff, Nat.reduceMul, Nat.reduceBEq, reduceIte, hv1, gi4, i4, c6, hv7, c10]
        · cases h
          simp -implicitDefEqProofs only [go_sem, Nat.reduceEqDiff, Nat.reduceAdd, Nat.reduceLT, Nat.reduceLeDiff, Nat.reduceMul, Nat.reduceBEq, reduceIte, hv1, gi4, i4, c6, hv7, c10]
          rw [hR9]
          simp -implicitDefEqProofs only [go_sem, Nat.reduceEqDiff, Nat.reduceAdd, Nat.reduceLT, Nat.reduceLeDiff, Nat.reduceMul, Nat.reduceBEq, reduceIte, hv1, gi4, i4, c6, hv7, c10]
      · replace h := h; clear hz
        rintro s i
        rw [hR9] at i
        obtain ⟨gi11, i11⟩ := i
        clear hR9
        try dsimp only at h
        rcases ib h with ⟨c12, h⟩ | ⟨c12, h⟩
        · obtain ⟨r13, hr13, h⟩ := bs h
          simp -implicitDefEqProofs only [go_sem, Nat.reduceEqDiff, Nat.reduceAdd, Nat.reduceLT, Nat.reduceLeDiff, Nat.reduceMul, Nat.reduceBEq, reduceIte, hv1, gi4, i4, c6, hv7, gi11, i11, c12]
          refine call_frz (r' := .p (.sl (r13.map cTOut))) (m_slices_Clone_api_Out_ev v7.f2 r13 hr13 (d + 1) empty) (by simp -implicitDefEqProofs only [go_sem, Nat.reduceEqDiff, Nat.reduceAdd, Nat.reduceLT, Nat.reduceLeDiff, Nat.reduceMul, Nat.reduceBEq, reduceIte, hv1, gi4, i4, c6, hv7, gi11, i11, c12]) rfl (by simp -implicitDefEqProofs only [go_sem, Nat.reduceEqDiff, Nat.reduceAdd, Nat.reduceLT, Nat.reduceLeDiff, Nat.reduceMul, Nat.reduceBEq, reduceIte]) (by simp -implicitDefEqProofs only [go_sem, Nat.reduceEqDiff, Nat.reduceAdd, Nat.reduceLT, Nat.reduceLeDiff, Nat.reduceMul, Nat.reduceBEq, reduceIte]) ?_ rfl rfl
          cases h
          simp -implicitDefEqProofs only [go_sem, Nat.reduceEqDiff, Nat.reduceAdd, Nat.reduceLT, Nat.reduceLeDiff, Nat.reduceMul, Nat.reduceBEq, reduceIte, hv1, gi4, i4, c6, hv7, gi11, i11, c12]
          rw [hR4]
          refine ⟨rfl, ?_⟩
          intro hr
          subst hr
          subst hQ
          simp -implicitDefEqProofs only [go_sem, Nat.reduceEqDiff, Nat.reduceAdd, Nat.reduceLT, Nat.reduceLeDiff, Nat.reduceMul, Nat.reduceBEq, reduceIte, hv1, gi4, i4, c6, hv7, gi11, i11, c12, Try.results27]
        · cases h
          simp -implicitDefEqProofs only [go_sem, Nat.reduceEqDiff, Nat.reduceAdd, Nat.reduceLT, Nat.reduceLeDiff, Nat.reduceMul, Nat.reduceBEq, reduceIte, hv1, gi4, i4, c6, hv7, gi11, i11, c12]
          rw [hI4]
          simp -implicitDefEqProofs only [go_sem, Nat.reduceEqDiff, Nat.reduceAdd, Nat.reduceLT, Nat.reduceLeDiff, Nat.reduceMul, Nat.reduceBEq, reduceIte, hv1, gi4, i4, c6, hv7, gi11, i11, c12]
    · cases h
      simp -implicitDefEqProofs only [go_sem, Nat.reduceEqDiff, Nat.reduceAdd, Nat.reduceLT, Nat.reduceLeDiff, Nat.reduceMul, Nat.reduceBEq, reduceIte, hv1, gi4, i4, c6]
      rw [hR4]
      refine ⟨rfl, ?_⟩
      simp -implicitDefEqProofs only [go_sem, Nat.reduceEqDiff, Nat.reduceAdd, Nat.reduceLT, Nat.reduceLeDiff, Nat.reduceMul, Nat.reduceBEq, reduceIte, hv1, gi4, i4, c6]
  · clear hL4 hI4
    intro e s hr4
    rw [hR4] at hr4
    clear hR4
    rcases z4 with _ | r
    · try dsimp only at h hr4
      obtain ⟨rfl, gi14, i14⟩ := hr4
      cases h
      subst hQ
      simp -implicitDefEqProofs only [go_sem, Nat.reduceEqDiff, Nat.reduceAdd, Nat.reduceLT, Nat.reduceLeDiff, Nat.reduceMul, Nat.reduceBEq, reduceIte, hv1, gi14, i14, Try.results27]
    · try dsimp only at h hr4
      obtain ⟨rfl, hr4⟩ := hr4
      cases h
      try simp -implicitDefEqProofs only [go_sem, Nat.reduceEqDiff, Nat.reduceAdd, Nat.reduceLT, Nat.reduceLeDiff, Nat.reduceMul, Nat.reduceBEq, reduceIte]
      exact hr4 rfl
theorem m_ref09_add_fst {a0 : List ByteArray} {a1 : ByteArray} {r0 : List ByteArray × Bool} (h : m_ref09_add_B a0 a1 = some r0) (e : r0.2 = true) : r0.1 = a0 := by
  unfold m_ref09_add_B at h
  obtain ⟨z, _, h⟩ := bs h
  rcases z with _ | _
  · dsimp only at h
    obtain ⟨_, _, h⟩ := bs h
    cases h
    cases e
  · cases h; rfl
theorem m_ref09_add_csl (a0 : List ByteArray) (a1 : ByteArray) (r0 : List ByteArray × Bool) (h : m_ref09_add_B a0 a1 = some r0) (d : Nat) (G : Heap) : Tel Try.prog TB d 46 [.csl (a0.map cstr), .p (.str a1)] G (if r0.2 = true then .csl (r0.1.map cstr) else .own (r0.1.map cstr) 1) G := by
  unfold m_ref09_add_B at h
  refine Tel.intro mix Try.func46 rfl (Nat.le_of_ble_eq_true rfl) {} (by kernel_rfl) (by kernel_rfl) ?_
  generalize hQ : callPost _ _ _ _ _ = Q
  simp -implicitDefEqProofs only [go_sem, Nat.reduceEqDiff, Nat.reduceAdd, Nat.reduceLT, Nat.reduceLeDiff, Nat.reduceMul, Nat.reduceBEq, reduceIte]
  obtain ⟨z3, hL3, h⟩ := bs h
  obtain ⟨I3, hI3⟩ : ∃ I : Int → St → Prop, I = fun v4 s => s.G = cut d G ∧ s.F 0 = .csl (a0.map cstr) ∧ s.F 1 = .p (.str a1) ∧ s.F 5 = .p (.int .i64 v4) ∧ True := ⟨_, rfl⟩
  obtain ⟨R3, hR3⟩ : ∃ R : (Unit ⊕ Unit) → GE → St → Prop, R = fun x e s => match x with | .inl _ => e = .exit 0 ∧ s.G = cut d G ∧ s.F 0 = .csl (a0.map cstr) ∧ s.F 1 = .p (.str a1) ∧ True | .inr _ => e = .ret ∧ s.G = cut d G ∧ s.F 4 = .csl (a0.map cstr) := ⟨_, rfl⟩
  refine lp (ts := []) rfl hL3 I3 R3 ?_ ?_ ?_
  · rw [hI3]
    simp -implicitDefEqProofs only [go_sem, Nat.reduceEqDiff, Nat.reduceAdd, Nat.reduceLT, Nat.reduceLeDiff, Nat.reduceMul, Nat.reduceBEq, reduceIte]
  · clear h hL3
    rintro v4 y s h i
    rw [hI3] at i
    obtain ⟨gi3, i3⟩ := i
    replace h : m_ref09_add_L0 a0 a1 (v4) = some y := h
    unfold m_ref09_add_L0 at h
    rcases ib h with ⟨c5, h⟩ | ⟨c5, h⟩
    · obtain ⟨v6, hv6, h⟩ := bs h
      replace hv6 := gis hv6
      rcases ib h with ⟨c7, h⟩ | ⟨c7, h⟩
      · cases h
        simp -implicitDefEqProofs only [go_sem, Nat.reduceEqDiff, Nat.reduceAdd, Nat.reduceLT, Nat.reduceLeDiff, Nat.reduceMul, Nat.reduceBEq, reduceIte, gi3, i3, c5, hv6, c7]
        rw [hR3]
        simp -implicitDefEqProofs only [go_sem, Nat.reduceEqDiff, Nat.reduceAdd, Nat.reduceLT, Nat.reduceLeDiff, Nat.reduceMul, Nat.reduceBEq, reduceIte, gi3, i3, c5, hv6, c7]
      · cases h
        simp -implicitDefEqProofs only [go_sem, Nat.reduceEqDiff, Nat.reduceAdd, Nat.reduceLT, Nat.reduceLeDiff, Nat.reduceMul, Nat.reduceBEq, reduceIte, gi3, i3, c5, hv6, c7]
        rw [hI3]
        simp -implicitDefEqProofs only [go_sem, Nat.reduceEqDiff, Nat.reduceAdd, Nat.reduceLT, Nat.reduceLeDiff, Nat.reduceMul, Nat.reduceBEq, reduceIte, gi3, i3, c5, hv6, c7]
    · cases h
      simp -implicitDefEqProofs only [go_sem, Nat.reduceEqDiff, Nat.reduceAdd, Nat.reduceLT, Nat.reduceLeDiff, Nat.reduceMul, Nat.reduceBEq, reduceIte, gi3, i3, c5]
      rw [hR3]
      refine ⟨rfl, ?_⟩
      simp -implicitDefEqProofs only [go_sem, Nat.reduceEqDiff, Nat.reduceAdd, Nat.reduceLT, Nat.reduceLeDiff, Nat.reduceMul, Nat.reduceBEq, reduceIte, gi3, i3, c5]
  · clear hL3 hI3
    intro e s hr3
    rw [hR3] at hr3
    clear hR3
    rcases z3 with _ | _
    · try dsimp only at h hr3
      obtain ⟨rfl, gi8, i8⟩ := hr3
      obtain ⟨_, c9, h⟩ := bs h
      replace c9 := rqs c9
      cases h
      subst hQ
      simp -implicitDefEqProofs only [go_sem, Nat.reduceEqDiff, Nat.reduceAdd, Nat.reduceLT, Nat.reduceLeDiff, Nat.reduceMul, Nat.reduceBEq, reduceIte, gi8, i8]
      refine append_new (es := (a0 : List ByteArray).map cstr) (xs := ([a1] : List ByteArray).map cstr) el47 (by simp -implicitDefEqProofs only [go_sem, Nat.reduceEqDiff, Nat.reduceAdd, Nat.reduceLT, Nat.reduceLeDiff, Nat.reduceMul, Nat.reduceBEq, reduceIte]) rfl (by simp -implicitDefEqProofs only [go_sem, Nat.reduceEqDiff, Nat.reduceAdd, Nat.reduceLT, Nat.reduceLeDiff, Nat.reduceMul, Nat.reduceBEq, reduceIte]) (by simp -implicitDefEqProofs only [go_sem, Nat.reduceEqDiff, Nat.reduceAdd, Nat.reduceLT, Nat.reduceLeDiff, Nat.reduceMul, Nat.reduceBEq, reduceIte]) (by simp at c9 ⊢; omega) (by simp) (by simp -implicitDefEqProofs only [go_sem, Nat.reduceEqDiff, Nat.reduceAdd, Nat.reduceLT, Nat.reduceLeDiff, Nat.reduceMul, Nat.reduceBEq, reduceIte, gi8]) ?_
      simp -implicitDefEqProofs only [go_sem, Nat.reduceEqDiff, Nat.reduceAdd, Nat.reduceLT, Nat.reduceLeDiff, Nat.reduceMul, Nat.reduceBEq, reduceIte, gi8, i8, Try.results46, List.length_append]
    · try dsimp only at h hr3
      obtain ⟨rfl, gi8, i8⟩ := hr3
      cases h
      subst hQ
      simp -implicitDefEqProofs only [go_sem, Nat.reduceEqDiff, Nat.reduceAdd, Nat.reduceLT, Nat.reduceLeDiff, Nat.reduceMul, Nat.reduceBEq, reduceIte, gi8, i8, Try.results46]
theorem m_ref09_add_tsl (a0 : List ByteArray) (a1 : ByteArray) (q t c : Nat) (r0 : List ByteArray × Bool) (h : m_ref09_add_B a0 a1 = some r0) (d : Nat) (hkd : q ≤ d) (G : Heap) (hg : get G (q, t, c) = some (.tok a0.length 1)) : Tel Try.prog TB d 46 [.tsl (a0.map cstr) (q, t, c), .p (.str a1)] G (.tsl (r0.1.map cstr) (q, t, c)) (if r0.2 = true then G else setKey G (q, t, c) (.tok r0.1.length 1)) := by
  have hne : (q = d + 1) = False := by simp; omega
  have hg2 : get (cut d G) (q, t, c) = some (.tok a0.length 1) := by rw [get_cut, if_pos hkd]; exact hg
  unfold m_ref09_add_B at h
  refine Tel.intro mix Try.func46 rfl (Nat.le_of_ble_eq_true rfl) {} (by kernel_rfl) (by kernel_rfl) ?_
  generalize hQ : callPost _ _ _ _ _ = Q
  simp -implicitDefEqProofs only [go_sem, Nat.reduceEqDiff, Nat.reduceAdd, Nat.reduceLT, Nat.reduceLeDiff, Nat.reduceMul, Nat.reduceBEq, reduceIte]
  obtain ⟨z3, hL3, h⟩ := bs h
  obtain ⟨I3, hI3⟩ : ∃ I : Int → St → Prop, I = fun v4 s => s.G = cut d G ∧ s.F 0 = .tsl (a0.map cstr) (q, t, c) ∧ s.F 1 = .p (.str a1) ∧ s.F 5 = .p (.int .i64 v4) ∧ True := ⟨_, rfl⟩
  obtain ⟨R3, hR3⟩ : ∃ R : (Unit ⊕ Unit) → GE → St → Prop, R = fun x e s => match x with | .inl _ => e = .exit 0 ∧ s.G = cut d G ∧ s.F 0 = .tsl (a0.map cstr) (q, t, c) ∧ s.F 1 = .p (.str a1) ∧ True | .inr _ => e = .ret ∧ s.G = cut d G ∧ s.F 4 = .tsl (a0.map cstr) (q, t, c) := ⟨_, rfl⟩
  refine lp (ts := []) rfl hL3 I3 R3 ?_ ?_ ?_
  · rw [hI3]
    simp -implicitDefEqProofs only [go_sem, Nat.reduceEqDiff, Nat.reduceAdd, Nat.reduceLT, Nat.reduceLeDiff, Nat.reduceMul, Nat.reduceBEq, reduceIte]
  · clear h hL3
    rintro v4 y s h i
    rw [hI3] at i
    obtain ⟨gi3, i3⟩ := i
    replace h : m_ref09_add_L0 a0 a1 (v4) = some y := h
    unfold m_ref09_add_L0 at h
    rcases ib h with ⟨c5, h⟩ | ⟨c5, h⟩
    · obtain ⟨v6, hv6, h⟩ := bs h
      replace hv6 := gis hv6
      rcases ib h with ⟨c7, h⟩ | ⟨c7, h⟩
      · cases h
        simp -implicitDefEqProofs only [go_sem, Nat.reduceEqDiff, Nat.reduceAdd, Nat.reduceLT, Nat.reduceLeDiff, Nat.reduceMul, Nat.reduceBEq, reduceIte, gi3, i3, c5, hv6, c7]
        rw [hR3]
        simp -implicitDefEqProofs only [go_sem, Nat.reduceEqDiff, Nat.reduceAdd, Nat.reduceLT, Nat.reduceLeDiff, Nat.reduceMul, Nat.reduceBEq, reduceIte, gi3, i3, c5, hv6, c7]
      · cases h
        simp -implicitDefEqProofs only [go_sem, Nat.reduceEqDiff, Nat.reduceAdd, Nat.reduceLT, Nat.reduceLeDiff, Nat.reduceMul, Nat.reduceBEq, reduceIte, gi3, i3, c5, hv6, c7]
        rw [hI3]
        simp -implicitDefEqProofs only [go_sem, Nat.reduceEqDiff, Nat.reduceAdd, Nat.reduceLT, Nat.reduceLeDiff, Nat.reduceMul, Nat.reduceBEq, reduceIte, gi3, i3, c5, hv6, c7]
    · cases h
      simp -implicitDefEqProofs only [go_sem, Nat.reduceEqDiff, Nat.reduceAdd, Nat.reduceLT, Nat.reduceLeDiff, Nat.reduceMul, Nat.reduceBEq, reduceIte, gi3, i3, c5]
      rw [hR3]
      refine ⟨rfl, ?_⟩
      simp -implicitDefEqProofs only [go_sem, Nat.reduceEqDiff, Nat.reduceAdd, Nat.reduceLT, Nat.reduceLeDiff, Nat.reduceMul, Nat.reduceBEq, reduceIte, gi3, i3, c5]
  · clear hL3 hI3
    intro e s hr3
    rw [hR3] at hr3
    clear hR3
    rcases z3 with _ | _
    · try dsimp only at h hr3
      obtain ⟨rfl, gi8, i8⟩ := hr3
      obtain ⟨_, c9, h⟩ := bs h
      replace c9 := rqs c9
      cases h
      subst hQ
      simp -implicitDefEqProofs only [go_sem, Nat.reduceEqDiff, Nat.reduceAdd, Nat.reduceLT, Nat.reduceLeDiff, Nat.reduceMul, Nat.reduceBEq, reduceIte, gi8, i8]
      refine append_tok (es := (a0 : List ByteArray).map cstr) (xs := ([a1] : List ByteArray).map cstr) el47 (by simp -implicitDefEqProofs only [go_sem, Nat.reduceEqDiff, Nat.reduceAdd, Nat.reduceLT, Nat.reduceLeDiff, Nat.reduceMul, Nat.reduceBEq, reduceIte]) rfl (by simp -implicitDefEqProofs only [go_sem, Nat.reduceEqDiff, Nat.reduceAdd, Nat.reduceLT, Nat.reduceLeDiff, Nat.reduceMul, Nat.reduceBEq, reduceIte]) (by simp -implicitDefEqProofs only [go_sem, Nat.reduceEqDiff, Nat.reduceAdd, Nat.reduceLT, Nat.reduceLeDiff, Nat.reduceMul, Nat.reduceBEq, reduceIte]) (by simp at c9 ⊢; omega) (by simp -implicitDefEqProofs only [go_sem, Nat.reduceEqDiff, Nat.reduceAdd, Nat.reduceLT, Nat.reduceLeDiff, Nat.reduceMul, Nat.reduceBEq, reduceIte, gi8, hg2]) ?_
      simp -implicitDefEqProofs only [go_sem, Nat.reduceEqDiff, Nat.reduceAdd, Nat.reduceLT, Nat.reduceLeDiff, Nat.reduceMul, Nat.reduceBEq, reduceIte, gi8, i8, Try.results46, hkd, List.length_append]
      exact agree_cut_set hkd
    · try dsimp only at h hr3
      obtain ⟨rfl, gi8, i8⟩ := hr3
      cases h
      subst hQ
      simp -implicitDefEqProofs only [go_sem, Nat.reduceEqDiff, Nat.reduceAdd, Nat.reduceLT, Nat.reduceLeDiff, Nat.reduceMul, Nat.reduceBEq, reduceIte, gi8, i8, hkd, Try.results46]
theorem m_ref09_Ops_ev (a0 : TProto) (r0 : (List ByteArray)) (h : m_ref09_Ops a0 = some r0) (d : Nat) (G : Heap) : Tel Try.prog TB d 23 [.agg ((cTProto a0).map .p)] G (.p (.sl (r0.map cstr))) G := by
  unfold m_ref09_Ops at h
  refine Tel.intro mix Try.func23 rfl (Nat.le_of_ble_eq_true rfl) {openAt := fun t => t == 19} (by kernel_rfl) (by kernel_rfl) ?_
  generalize hQ : callPost _ _ _ _ _ = Q
  simp -implicitDefEqProofs only [go_sem, Nat.reduceEqDiff, Nat.reduceAdd, Nat.reduceLT, Nat.reduceLeDiff, Nat.reduceMul, Nat.reduceBEq, reduceIte]
  obtain ⟨z7, hL7, h⟩ := bs h
  obtain ⟨I7, hI7⟩ : ∃ I : ((List ByteArray) × Int) → St → Prop, I = fun a s => match a with | (v8, v10) => ∃ o9, s.G = fillKey (fillKey (cut d G) (d + 1) 1 [.box [.p (.str a0.f0), .p (.sl (a0.f1.map cTState)), .p (.sl (a0.f2.map cTMove))]]) (d + 1) 19 (growO o9 19 1 (v8.map cstr)) ∧ growOK o9 [19] ∧ s.F 1 = .bp (d + 1, 1, 0) 0 ∧ s.F 3 = growV o9 (d + 1) (v8.map cstr) ∧ s.F 4 = .p (.int .i64 v10) ∧ True := ⟨_, rfl⟩
  obtain ⟨R7, hR7⟩ : ∃ R : ((List ByteArray)) → GE → St → Prop, R = fun v11 e s => e = .exit 0 ∧ (∃ o12, s.G = fillKey (fillKey (cut d G) (d + 1) 1 [.box [.p (.str a0.f0), .p (.sl (a0.f1.map cTState)), .p (.sl (a0.f2.map cTMove))]]) (d + 1) 19 (growO o12 19 1 (v11.map cstr)) ∧ growOK o12 [19] ∧ s.F 3 = growV o12 (d + 1) (v11.map cstr) ∧ True) := ⟨_, rfl⟩
  refine lp (ts := []) rfl hL7 I7 R7 ?_ ?_ ?_
  · rw [hI7]
    refine ⟨none, ?_⟩
    simp -implicitDefEqProofs only [go_sem, Nat.reduceEqDiff, Nat.reduceAdd, Nat.reduceLT, Nat.reduceLeDiff, Nat.reduceMul, Nat.reduceBEq, reduceIte]
  · clear h hL7
    rintro ⟨v8, v10⟩ y s h i
    rw [hI7] at i
    obtain ⟨o9, gi7, ko9, i7⟩ := i
    replace h : m_ref09_Ops_L0 a0 (v8, v10) = some y := h
    unfold m_ref09_Ops_L0 at h
    rcases ib h with ⟨c13, h⟩ | ⟨c13, h⟩
    · obtain ⟨v14, hv14, h⟩ := bs h
      replace hv14 := gis hv14
      obtain ⟨r15, hr15, h⟩ := bs h
      simp -implicitDefEqProofs only [go_sem, Nat.reduceEqDiff, Nat.reduceAdd, Nat.reduceLT, Nat.reduceLeDiff, Nat.reduceMul, Nat.reduceBEq, reduceIte, gi7, ko9, i7, c13, hv14]
      refine call_G (o := o9) (ts := [19]) (sz := 1) (fnd := r15.2) (es := (v8 : List ByteArray).map cstr) (es' := r15.1.map cstr) (t0 := 999) (hA := m_ref09_add_csl v8 v14.f0 r15 hr15 (d + 1) _) (hB := fun q t c hq hg => by rw [List.length_map] at hg; have := m_ref09_add_tsl (TB := TB) v8 v14.f0 q t c r15 hr15 (d + 1) hq _ hg; rw [List.length_map]; exact this) (hes := fun e => by rw [m_ref09_add_fst hr15 e]) (ho := growOK.sub ko9 (by decide)) (hG := by simp -implicitDefEqProofs only [go_sem, Nat.reduceEqDiff, Nat.reduceAdd, Nat.reduceLT, Nat.reduceLeDiff, Nat.reduceMul, Nat.reduceBEq, reduceIte, gi7, ko9, i7, c13, hv14]) (hj := by simp -implicitDefEqProofs only [go_sem, Nat.reduceEqDiff, Nat.reduceAdd, Nat.reduceLT, Nat.reduceLeDiff, Nat.reduceMul, Nat.reduceBEq, reduceIte]) (ht0 := by simp -implicitDefEqProofs only [go_sem, Nat.reduceEqDiff, Nat.reduceAdd, Nat.reduceLT, Nat.reduceLeDiff, Nat.reduceMul, Nat.reduceBEq, reduceIte, gi7, ko9, i7, c13, hv14]) (ht0' := by decide) (hopen := rfl) ?_
      intro o16 ko16
      cases h
      simp -implicitDefEqProofs only [go_sem, Nat.reduceEqDiff, Nat.reduceAdd, Nat.reduceLT, Nat.reduceLeDiff, Nat.reduceMul, Nat.reduceBEq, reduceIte, gi7, ko9, i7, c13, hv14, ko16]
      rw [hI7]
      refine ⟨o16, ?_⟩
      simp -implicitDefEqProofs only [go_sem, Nat.reduceEqDiff, Nat.reduceAdd, Nat.reduceLT, Nat.reduceLeDiff, Nat.reduceMul, Nat.reduceBEq, reduceIte, gi7, ko9, i7, c13, hv14, ko16]
    · cases h
      simp -implicitDefEqProofs only [go_sem, Nat.reduceEqDiff, Nat.reduceAdd, Nat.reduceLT, Nat.reduceLeDiff, Nat.reduceMul, Nat.reduceBEq, reduceIte, gi7, ko9, i7, c13]
      rw [hR7]
      refine ⟨rfl, o9, ?_⟩
      simp -implicitDefEqProofs only [go_sem, Nat.reduceEqDiff, Nat.reduceAdd, Nat.reduceLT, Nat.reduceLeDiff, Nat.reduceMul, Nat.reduceBEq, reduceIte, gi7, ko9, i7, c13]
  · clear hL7 hI7
    intro e s hr7
    rw [hR7] at hr7
    clear hR7
    revert h hr7
    generalize z7 = v11
    intro h hr7
    try dsimp only at h hr7
    obtain ⟨rfl, o12, gi17, ko12, i17⟩ := hr7
    cases h
    subst hQ
    simp -implicitDefEqProofs only [go_sem, Nat.reduceEqDiff, Nat.reduceAdd, Nat.reduceLT, Nat.reduceLeDiff, Nat.reduceMul, Nat.reduceBEq, reduceIte, gi17, ko12, i17, Try.results23]
theorem m_ref09_Outcomes_ev (a0 : TProto) (a1 : ByteArray) (r0 : (List ByteArray)) (h : m_ref09_Outcomes a0 a1 = some r0) (d : Nat) (G : Heap) : Tel Try.prog TB d 25 [.agg ((cTProto a0).map .p), .p (.str a1)] G (.p (.sl (r0.map cstr))) G := by
  unfold m_ref09_Outcomes at h
  refine Tel.intro mix Try.func25 rfl (Nat.le_of_ble_eq_true rfl) {openAt := fun t => t == 47} (by kernel_rfl) (by kernel_rfl) ?_
  generalize hQ : callPost _ _ _ _ _ = Q
  simp -implicitDefEqProofs only [go_sem, Nat.reduceEqDiff, Nat.reduceAdd, Nat.reduceLT, Nat.reduceLeDiff, Nat.reduceMul, Nat.reduceBEq, reduceIte]
  obtain ⟨z7, hL7, h⟩ := bs h
  obtain ⟨I7, hI7⟩ : ∃ I : ((List ByteArray) × Int) → St → Prop, I = fun a s => match a with | (v8, v10) => ∃ o9, s.G = fillKey (fillKey (cut d G) (d + 1) 2 [.box [.p (.str a0.f0), .p (.sl (a0.f1.map cTState)), .p (.sl (a0.f2.map cTMove))]]) (d + 1) 47 (growO o9 47 1 (v8.map cstr)) ∧ growOK o9 [47] ∧ s.F 1 = .p (.str a1) ∧ s.F 2 = .bp (d + 1, 2, 0) 0 ∧ s.F 5 = growV o9 (d + 1) (v8.map cstr) ∧ s.F 6 = .p (.int .i64 v10) ∧ True := ⟨_, rfl⟩
  obtain ⟨R7, hR7⟩ : ∃ R : ((List ByteArray)) → GE → St → Prop, R = fun v11 e s => e = .exit 0 ∧ (∃ o12, s.G = fillKey (fillKey (cut d G) (d + 1) 2 [.box [.p (.str a0.f0), .p (.sl (a0.f1.map cTState)), .p (.sl (a0.f2.map cTMove))]]) (d + 1) 47 (growO o12 47 1 (v11.map cstr)) ∧ growOK o12 [47] ∧ s.F 5 = growV o12 (d + 1) (v11.map cstr) ∧ True) := ⟨_, rfl⟩
  refine lp (ts := []) rfl hL7 I7 R7 ?_ ?_ ?_
  · rw [hI7]
    refine ⟨none, ?_⟩
    simp -implicitDefEqProofs only [go_sem, Nat.reduceEqDiff, Nat.reduceAdd, Nat.reduceLT, Nat.reduceLeDiff, Nat.reduceMul, Nat.reduceBEq, reduceIte]
  · clear h hL7
    rintro ⟨v8, v10⟩ y s h i
    rw [hI7] at i
    obtain ⟨o9, gi7, ko9, i7⟩ := i
    replace h : m_ref09_Outcomes_L0 a0 a1 (v8, v10) = some y := h
    unfold m_ref09_Outcomes_L0 at h
    rcases ib h with ⟨c13, h⟩ | ⟨c13, h⟩
    · simp -implicitDefEqProofs only [go_sem, Nat.reduceEqDiff, Nat.reduceAdd, Nat.reduceLT, Nat.reduceLeDiff, Nat.reduceMul, Nat.reduceBEq, reduceIte, gi7, ko9, i7, c13]
      obtain ⟨z20, hL20, h⟩ := bs h
      obtain ⟨I20, hI20⟩ : ∃ I : ((List ByteArray) × Int) → St → Prop, I = fun a s => match a with | (v21, v23) => ∃ o22, s.G = fillKey (fillKey (cut d G) (d + 1) 2 [.box [.p (.str a0.f0), .p (.sl (a0.f1.map cTState)), .p (.sl (a0.f2.map cTMove))]]) (d + 1) 47 (growO o22 47 1 (v21.map cstr)) ∧ growOK o22 [47] ∧ s.F 1 = .p (.str a1) ∧ s.F 2 = .bp (d + 1, 2, 0) 0 ∧ s.F 5 = growV o22 (d + 1) (v21.map cstr) ∧ s.F 6 = .p (.int .i64 v10) ∧ s.F 7 = .p (.int .i64 v23) ∧ True := ⟨_, rfl⟩
      obtain ⟨R20, hR20⟩ : ∃ R : ((List ByteArray)) → GE → St → Prop, R = fun v24 e s => e = .exit 2 ∧ (∃ o25, s.G = fillKey (fillKey (cut d G) (d + 1) 2 [.box [.p (.str a0.f0), .p (.sl (a0.f1.map cTState)), .p (.sl (a0.f2.map cTMove))]]) (d + 1) 47 (growO o25 47 1 (v24.map cstr)) ∧ growOK o25 [47] ∧ s.F 1 = .p (.str a1) ∧ s.F 2 = .bp (d + 1, 2, 0) 0 ∧ s.F 5 = growV o25 (d + 1) (v24.map cstr) ∧ s.F 6 = .p (.int .i64 v10) ∧ True) := ⟨_, rfl⟩
      refine lp (ts := []) rfl hL20 I20 R20 ?_ ?_ ?_
      · rw [hI20]
        refine ⟨o9, ?_⟩
        simp -implicitDefEqProofs only [go_sem, Nat.reduceEqDiff, Nat.reduceAdd, Nat.reduceLT, Nat.reduceLeDiff, Nat.reduceMul, Nat.reduceBEq, reduceIte, gi7, ko9, i7, c13]
      · clear h hL20
        rintro ⟨v21, v23⟩ y s h i
        rw [hI20] at i
        obtain ⟨o22, gi20, ko22, i20⟩ := i
        replace h : m_ref09_Outcomes_L1 a0 v10 a1 (v21, v23) = some y := h
        unfold m_ref09_Outcomes_L1 at h
        obtain ⟨v26, hv26, h⟩ := bs h
        replace hv26 := gis hv26
        simp -implicitDefEqProofs only [go_sem, Nat.reduceEqDiff, Nat.reduceAdd, Nat.reduceLT, Nat.reduceLeDiff, Nat.reduceMul, Nat.reduceBEq, reduceIte, gi7, ko9, i7, c13, gi20, ko22, i20, hv26]
        obtain ⟨v27, hz, h⟩ := bs h
        obtain ⟨R28, hR28⟩ : ∃ R : St → Prop, R = fun s => s.G = fillKey (fillKey (cut d G) (d + 1) 2 [.box [.p (.str a0.f0), .p (.sl (a0.f1.map cTState)), .p (.sl (a0.f2.map cTMove))]]) (d + 1) 47 (growO o22 47 1 (v21.map cstr)) ∧ s.F 1 = .p (.str a1) ∧ s.F 2 = .bp (d + 1, 2, 0) 0 ∧ s.F 5 = growV o22 (d + 1) (v21.map cstr) ∧ s.F 6 = .p (.int .i64 v10) ∧ s.F 7 = .p (.int .i64 v23) ∧ s.F 33 = .p (.bool v27) ∧ True := ⟨_, rfl⟩
        refine cutR R28 ?_ ?_
        · replace h := hz
          rcases ib h with ⟨c29, h⟩ | ⟨c29, h⟩
          · cases h
            simp -implicitDefEqProofs only [go_sem, Nat.reduceEqDiff, Nat.reduceAdd, Nat.reduceLT, Nat.reduceLeDiff, Nat.reduceMul, Nat.reduceBEq, reduceIte, gi7, ko9, i7, c13, gi20, ko22, i20, hv26, c29]
            rw [hR28]
            simp -implicitDefEqProofs only [go_sem, Nat.reduceEqDiff, Nat.reduceAdd, Nat.reduceLT, Nat.reduceLeDiff, Nat.reduceMul, Nat.reduceBEq, reduceIte, gi7, ko9, i7, c13, gi20, ko22, i20, hv26, c29]
          · cases h
            simp -implicitDefEqProofs only [go_sem, Nat.reduceEqDiff, Nat.reduceAdd, Nat.reduceLT, Nat.reduceLeDiff, Nat.reduceMul, Nat.reduceBEq, reduceIte, gi7, ko9, i7, c13, gi20, ko22, i20, hv26, c29]
            rw [hR28]
            simp -implicitDefEqProofs only [go_sem, Nat.reduceEqDiff, Nat.reduceAdd, Nat.reduceLT, Nat.reduceLeDiff, Nat.reduceMul, Nat.reduceBEq, reduceIte, gi7, ko9, i7, c13, gi20, ko22, i20, hv26, c29]
        · replace h := h; clear hz
          rintro s i
          rw [hR28] at i
          obtain ⟨gi30, i30⟩ := i
          clear hR28
          try dsimp only at h
          rcases ib h with ⟨c31, h⟩ | ⟨c31, h⟩
          · obtain ⟨v32, hv32, h⟩ := bs h
            replace hv32 := gis hv32
            obtain ⟨r33, hr33, h⟩ := bs h
            simp -implicitDefEqProofs only [go_sem, Nat.reduceEqDiff, Nat.reduceAdd, Nat.reduceLT, Nat.reduceLeDiff, Nat.reduceMul, Nat.reduceBEq, reduceIte, gi7, ko9, i7, c13, gi20, ko22, i20, hv26, gi30, i30, c31, hv32]
            refine call_G (o := o22) (ts := [47]) (sz := 1) (fnd := r33.2) (es := (v21 : List ByteArray).map cstr) (es' := r33.1.map cstr) (t0 := 999) (hA := m_ref09_add_csl v21 v32.f0 r33 hr33 (d + 1) _) (hB := fun q t c hq hg => by rw [List.length_map] at hg; have := m_ref09_add_tsl (TB := TB) v21 v32.f0 q t c r33 hr33 (d + 1) hq _ hg; rw [List.length_map]; exact this) (hes := fun e => by rw [m_ref09_add_fst hr33 e]) (ho := growOK.sub ko22 (by decide)) (hG := by simp -implicitDefEqProofs only [go_sem, Nat.reduceEqDiff, Nat.reduceAdd, Nat.reduceLT, Nat.reduceLeDiff, Nat.reduceMul, Nat.reduceBEq, reduceIte, gi7, ko9, i7, c13, gi20, ko22, i20, hv26, gi30, i30, c31, hv32]) (hj := by simp -implicitDefEqProofs only [go_sem, Nat.reduceEqDiff, Nat.reduceAdd, Nat.reduceLT, Nat.reduceLeDiff, Nat.reduceMul, Nat.reduceBEq, reduceIte]) (ht0 := by simp -implicitDefEqProofs only [go_sem, Nat.reduceEqDiff, Nat.reduceAdd, Nat.reduceLT, Nat.reduceLeDiff, Nat.reduceMul, Nat.reduceBEq, reduceIte, gi7, ko9, i7, c13, gi20, ko22, i20, hv26, gi30, i30, c31, hv32]) (ht0' := by decide) (hopen := rfl) ?_
            intro o34 ko34
            cases h
            simp -implicitDefEqProofs only [go_sem, Nat.reduceEqDiff, Nat.reduceAdd, Nat.reduceLT, Nat.reduceLeDiff, Nat.reduceMul, Nat.reduceBEq, reduceIte, gi7, ko9, i7, c13, gi20, ko22, i20, hv26, gi30, i30, c31, hv32, ko34]
            rw [hI20]
            refine ⟨o34, ?_⟩
            simp -implicitDefEqProofs only [go_sem, Nat.reduceEqDiff, Nat.reduceAdd, Nat.reduceLT, Nat.reduceLeDiff, Nat.reduceMul, Nat.reduceBEq, reduceIte, gi7, ko9, i7, c13, gi20, ko22, i20, hv26, gi30, i30, c31, hv32, ko34]
          · cases h
            simp -implicitDefEqProofs only [go_sem, Nat.reduceEqDiff, Nat.reduceAdd, Nat.reduceLT, Nat.reduceLeDiff, Nat.reduceMul, Nat.reduceBEq, reduceIte, gi7, ko9, i7, c13, gi20, ko22, i20, hv26, gi30, i30, c31]
            rw [hR20]
            refine ⟨rfl, o22, ?_⟩
            simp -implicitDefEqProofs only [go_sem, Nat.reduceEqDiff, Nat.reduceAdd, Nat.reduceLT, Nat.reduceLeDiff, Nat.reduceMul, Nat.reduceBEq, reduceIte, gi7, ko9, i7, c13, gi20, ko22, i20, hv26, gi30, i30, c31]
      · clear hL20 hI20
        intro e s hr20
        rw [hR20] at hr20
        clear hR20
        revert h hr20
        generalize z20 = v24
        intro h hr20
        try dsimp only at h hr20
        obtain ⟨rfl, o25, gi35, ko25, i35⟩ := hr20
        cases h
        simp -implicitDefEqProofs only [go_sem, Nat.reduceEqDiff, Nat.reduceAdd, Nat.reduceLT, Nat.reduceLeDiff, Nat.reduceMul, Nat.reduceBEq, reduceIte, gi7, ko9, i7, c13, gi35, ko25, i35]
        rw [hI7]
        refine ⟨o25, ?_⟩
        simp -implicitDefEqProofs only [go_sem, Nat.reduceEqDiff, Nat.reduceAdd, Nat.reduceLT, Nat.reduceLeDiff, Nat.reduceMul, Nat.reduceBEq, reduceIte, gi7, ko9, i7, c13, gi35, ko25, i35]
    · cases h
      simp -implicitDefEqProofs only [go_sem, Nat.reduceEqDiff, Nat.reduceAdd, Nat.reduceLT, Nat.reduceLeDiff, Nat.reduceMul, Nat.reduceBEq, reduceIte, gi7, ko9, i7, c13]
      rw [hR7]
      refine ⟨rfl, o9, ?_⟩
      simp -implicitDefEqProofs only [go_sem, Nat.reduceEqDiff, Nat.reduceAdd, Nat.reduceLT, Nat.reduceLeDiff, Nat.reduceMul, Nat.reduceBEq, reduceIte, gi7, ko9, i7, c13]
  · clear hL7 hI7
    intro e s hr7
    rw [hR7] at hr7
    clear hR7
    revert h hr7
    generalize z7 = v11
    intro h hr7
    try dsimp only at h hr7
    obtain ⟨rfl, o12, gi36, ko12, i36⟩ := hr7
    cases h
    subst hQ
    simp -implicitDefEqProofs only [go_sem, Nat.reduceEqDiff, Nat.reduceAdd, Nat.reduceLT, Nat.reduceLeDiff, Nat.reduceMul, Nat.reduceBEq, reduceIte, gi36, ko12, i36, Try.results25]
theorem m_auto_clone_ne (a0 : TProto) (hne : a0.f2 ≠ []) (r0 : TProto) (h : m_auto_clone a0 = some r0) (d : Nat) (G : Heap) : Tel Try.prog TB d 37 [.agg ((cTProto a0).map .p)] G (.agg [.p (.str r0.f0), .p (.sl (r0.f1.map cTState)), .own (r0.f2.map cTMove) 3]) G := by
  unfold m_auto_clone at h
  refine Tel.intro mix Try.func37 rfl (Nat.le_of_ble_eq_true rfl) {frzAt := fun t => t == 6 || t == 27} (by kernel_rfl) (by kernel_rfl) ?_
  generalize hQ : callPost _ _ _ _ _ = Q
  obtain ⟨r1, hr1, h⟩ := bs h
  simp -implicitDefEqProofs only [go_sem, Nat.reduceEqDiff, Nat.reduceAdd, Nat.reduceLT, Nat.reduceLeDiff, Nat.reduceMul, Nat.reduceBEq, reduceIte]
  refine call_frz (r' := .p (.sl (r1.map cTState))) (m_slices_Clone_api_State_ev a0.f1 r1 hr1 (d + 1) empty) (by simp -implicitDefEqProofs only [go_sem, Nat.reduceEqDiff, Nat.reduceAdd, Nat.reduceLT, Nat.reduceLeDiff, Nat.reduceMul, Nat.reduceBEq, reduceIte]) rfl (by simp -implicitDefEqProofs only [go_sem, Nat.reduceEqDiff, Nat.reduceAdd, Nat.reduceLT, Nat.reduceLeDiff, Nat.reduceMul, Nat.reduceBEq, reduceIte]) (by simp -implicitDefEqProofs only [go_sem, Nat.reduceEqDiff, Nat.reduceAdd, Nat.reduceLT, Nat.reduceLeDiff, Nat.reduceMul, Nat.reduceBEq, reduceIte]) ?_ rfl rfl
  obtain ⟨r2, hr2, h⟩ := bs h
  simp -implicitDefEqProofs only [go_sem, Nat.reduceEqDiff, Nat.reduceAdd, Nat.reduceLT, Nat.reduceLeDiff, Nat.reduceMul, Nat.reduceBEq, reduceIte]
  refine call_own (r' := .arr (d + 1, 9, 0) r2.length 3) (os := [.arr (r2.map cTMove)]) (m_slices_Clone_api_Move_ar hne a0.f2 r2 hr2 (d + 1) empty) (by simp -implicitDefEqProofs only [go_sem, Nat.reduceEqDiff, Nat.reduceAdd, Nat.reduceLT, Nat.reduceLeDiff, Nat.reduceMul, Nat.reduceBEq, reduceIte]) rfl (by simp -implicitDefEqProofs only [go_sem, Nat.reduceEqDiff, Nat.reduceAdd, Nat.reduceLT, Nat.reduceLeDiff, Nat.reduceMul, Nat.reduceBEq, reduceIte]) (by simp -implicitDefEqProofs only [go_sem, Nat.reduceEqDiff, Nat.reduceAdd, Nat.reduceLT, Nat.reduceLeDiff, Nat.reduceMul, Nat.reduceBEq, reduceIte]) (by simp -implicitDefEqProofs only [go_sem, Nat.reduceEqDiff, Nat.reduceAdd, Nat.reduceLT, Nat.reduceLeDiff, Nat.reduceMul, Nat.reduceBEq, reduceIte]) ?_ rfl rfl
  simp -implicitDefEqProofs only [go_sem, Nat.reduceEqDiff, Nat.reduceAdd, Nat.reduceLT, Nat.reduceLeDiff, Nat.reduceMul, Nat.reduceBEq, reduceIte]
  obtain ⟨z7, hL7, h⟩ := bs h
  obtain ⟨I7, hI7⟩ : ∃ I : (Int × (List TMove)) → St → Prop, I = fun a s => match a with | (v8, v9) => s.G = fillKey (fillKey (fillKey (cut d G) (d + 1) 1 [.box [.p (.str a0.f0), .p (.sl (r1.map cTState)), .arr (d + 1, 9, 0) v9.length 3]]) (d + 1) 2 [.box [.p (.str ByteArray.empty), .csl [], .csl []]]) (d + 1) 9 [.arr (v9.map cTMove)] ∧ s.F 1 = .bp (d + 1, 1, 0) 0 ∧ s.F 2 = .bp (d + 1, 2, 0) 0 ∧ s.F 14 = .p (.int .i64 (r2.length : Int)) ∧ s.F 15 = .p (.int .i64 v8) ∧ True := ⟨_, rfl⟩
  obtain ⟨R7, hR7⟩ : ∃ R : ((List TMove)) → GE → St → Prop, R = fun v10 e s => e = .exit 0 ∧ s.G = fillKey (fillKey (fillKey (cut d G) (d + 1) 1 [.box [.p (.str a0.f0), .p (.sl (r1.map cTState)), .arr (d + 1, 9, 0) v10.length 3]]) (d + 1) 2 [.box [.p (.str ByteArray.empty), .csl [], .csl []]]) (d + 1) 9 [.arr (v10.map cTMove)] ∧ s.F 1 = .bp (d + 1, 1, 0) 0 ∧ s.F 2 = .bp (d + 1, 2, 0) 0 ∧ True := ⟨_, rfl⟩
  refine lp (ts := []) rfl hL7 I7 R7 ?_ ?_ ?_
  · rw [hI7]
    simp -implicitDefEqProofs only [go_sem, Nat.reduceEqDiff, Nat.reduceAdd, Nat.reduceLT, Nat.reduceLeDiff, Nat.reduceMul, Nat.reduceBEq, reduceIte]
  · clear h hL7
    rintro ⟨v8, v9⟩ y s h i
    rw [hI7] at i
    obtain ⟨gi7, i7⟩ := i
    replace h : m_auto_clone_L0 r2 (v8, v9) = some y := h
    unfold m_auto_clone_L0 at h
    rcases ib h with ⟨c11, h⟩ | ⟨c11, h⟩
    · obtain ⟨_, c12, h⟩ := bs h
      replace c12 := rqs c12
      obtain ⟨_, c13, h⟩ := bs h
      replace c13 := rqs c13
      obtain ⟨v14, hv14, h⟩ := bs h
      replace hv14 := gis hv14
      obtain ⟨r15, hr15, h⟩ := bs h
      simp -implicitDefEqProofs only [go_sem, Nat.reduceEqDiff, Nat.reduceAdd, Nat.reduceLT, Nat.reduceLeDiff, Nat.reduceMul, Nat.reduceBEq, reduceIte, gi7, i7, c11, c12, c13, hv14]
      refine call_frz (r' := .p (.sl (r15.map cTOut))) (m_slices_Clone_api_Out_ev v14.f2 r15 hr15 (d + 1) empty) (by simp -implicitDefEqProofs only [go_sem, Nat.reduceEqDiff, Nat.reduceAdd, Nat.reduceLT, Nat.reduceLeDiff, Nat.reduceMul, Nat.reduceBEq, reduceIte, gi7, i7, c11, c12, c13, hv14]) rfl (by simp -implicitDefEqProofs only [go_sem, Nat.reduceEqDiff, Nat.reduceAdd, Nat.reduceLT, Nat.reduceLeDiff, Nat.reduceMul, Nat.reduceBEq, reduceIte]) (by simp -implicitDefEqProofs only [go_sem, Nat.reduceEqDiff, Nat.reduceAdd, Nat.reduceLT, Nat.reduceLeDiff, Nat.reduceMul, Nat.reduceBEq, reduceIte]) ?_ rfl rfl
      cases h
      simp -implicitDefEqProofs only [go_sem, Nat.reduceEqDiff, Nat.reduceAdd, Nat.reduceLT, Nat.reduceLeDiff, Nat.reduceMul, Nat.reduceBEq, reduceIte, gi7, i7, c11, c12, c13, hv14]
      rw [hI7]
      simp -implicitDefEqProofs only [go_sem, Nat.reduceEqDiff, Nat.reduceAdd, Nat.reduceLT, Nat.reduceLeDiff, Nat.reduceMul, Nat.reduceBEq, reduceIte, gi7, i7, c11, c12, c13, hv14]
    · cases h
      simp -implicitDefEqProofs only [go_sem, Nat.reduceEqDiff, Nat.reduceAdd, Nat.reduceLT, Nat.reduceLeDiff, Nat.reduceMul, Nat.reduceBEq, reduceIte, gi7, i7, c11]
      rw [hR7]
      refine ⟨rfl, ?_⟩
      simp -implicitDefEqProofs only [go_sem, Nat.reduceEqDiff, Nat.reduceAdd, Nat.reduceLT, Nat.reduceLeDiff, Nat.reduceMul, Nat.reduceBEq, reduceIte, gi7, i7, c11]
  · clear hL7 hI7
    intro e s hr7
    rw [hR7] at hr7
    clear hR7
    revert h hr7
    generalize z7 = v10
    intro h hr7
    try dsimp only at h hr7
    obtain ⟨rfl, gi16, i16⟩ := hr7
    cases h
    subst hQ
    simp -implicitDefEqProofs only [go_sem, Nat.reduceEqDiff, Nat.reduceAdd, Nat.reduceLT, Nat.reduceLeDiff, Nat.reduceMul, Nat.reduceBEq, reduceIte, gi16, i16, Try.results37]
theorem m_auto_clone_ev (a0 : TProto) (r0 : TProto) (h : m_auto_clone a0 = some r0) (d : Nat) (G : Heap) : Tel Try.prog TB d 37 [.agg ((cTProto a0).map .p)] G (.agg [.p (.str r0.f0), .p (.sl (r0.f1.map cTState)), ownP (r0.f2.map cTMove) 3]) G := by
  by_cases hne : a0.f2 = []
  · obtain ⟨x0, x1, x2⟩ := a0
    dsimp only at hne
    subst hne
    unfold m_auto_clone at h
    obtain ⟨r1, hr1, h⟩ := bs h
    obtain ⟨r2, hr2, h⟩ := bs h
    obtain rfl : r2 = [] := by
      unfold m_slices_Clone_api_Move at hr2
      obtain ⟨_, _, hr2⟩ := bs hr2
      cases hr2; rfl
    rw [loopO_inr (x := []) (by rfl)] at h
    cases h
    refine Tel.intro mix Try.func37 rfl (Nat.le_of_ble_eq_true rfl) {frzAt := fun t => t == 6 || t == 9 || t == 27} (by kernel_rfl) (by kernel_rfl) ?_
    simp -implicitDefEqProofs only [go_sem, Nat.reduceEqDiff, Nat.reduceAdd, Nat.reduceLT, Nat.reduceLeDiff, Nat.reduceMul, Nat.reduceBEq, reduceIte]
    refine call_frz (r' := .p (.sl (r1.map cTState))) (m_slices_Clone_api_State_ev x1 r1 hr1 (d + 1) empty) (by simp -implicitDefEqProofs only [go_sem, Nat.reduceEqDiff, Nat.reduceAdd, Nat.reduceLT, Nat.reduceLeDiff, Nat.reduceMul, Nat.reduceBEq, reduceIte]) rfl (by simp -implicitDefEqProofs only [go_sem, Nat.reduceEqDiff, Nat.reduceAdd, Nat.reduceLT, Nat.reduceLeDiff, Nat.reduceMul, Nat.reduceBEq, reduceIte]) (by simp -implicitDefEqProofs only [go_sem, Nat.reduceEqDiff, Nat.reduceAdd, Nat.reduceLT, Nat.reduceLeDiff, Nat.reduceMul, Nat.reduceBEq, reduceIte]) ?_ rfl rfl
    simp -implicitDefEqProofs only [go_sem, Nat.reduceEqDiff, Nat.reduceAdd, Nat.reduceLT, Nat.reduceLeDiff, Nat.reduceMul, Nat.reduceBEq, reduceIte]
    refine call_frz (r' := .p (.sl (([] : List TMove).map cTMove))) (m_slices_Clone_api_Move_ev [] [] hr2 (d + 1) empty) (by simp -implicitDefEqProofs only [go_sem, Nat.reduceEqDiff, Nat.reduceAdd, Nat.reduceLT, Nat.reduceLeDiff, Nat.reduceMul, Nat.reduceBEq, reduceIte]) rfl (by simp -implicitDefEqProofs only [go_sem, Nat.reduceEqDiff, Nat.reduceAdd, Nat.reduceLT, Nat.reduceLeDiff, Nat.reduceMul, Nat.reduceBEq, reduceIte]) (by simp -implicitDefEqProofs only [go_sem, Nat.reduceEqDiff, Nat.reduceAdd, Nat.reduceLT, Nat.reduceLeDiff, Nat.reduceMul, Nat.reduceBEq, reduceIte]) ?_ rfl rfl
    simp -implicitDefEqProofs only [go_sem, Nat.reduceEqDiff, Nat.reduceAdd, Nat.reduceLT, Nat.reduceLeDiff, Nat.reduceMul, Nat.reduceBEq, reduceIte]
    refine gwp_loop (fun k s => s.F 1 = .bp (d + 1, 1, 0) 0 ∧ s.F 2 = .bp (d + 1, 2, 0) 0 ∧ s.F 14 = .p (.int .i64 0) ∧ s.F 15 = .p (.int .i64 0) ∧ s.G = fillKey (fillKey (cut d G) (d + 1) 1 [.box [.p (.str x0), .p (.sl (r1.map cTState)), .p (.sl [])]]) (d + 1) 2 [.box [.p (.str .empty), .csl [], .csl []]]) (m := 0) (by simp -implicitDefEqProofs only [go_sem, Nat.reduceEqDiff, Nat.reduceAdd, Nat.reduceLT, Nat.reduceLeDiff, Nat.reduceMul, Nat.reduceBEq, reduceIte]) ?_
    rintro k s i
    show gwp _ _ _ _ _ _ s
    simp -implicitDefEqProofs only [go_sem, Nat.reduceEqDiff, Nat.reduceAdd, Nat.reduceLT, Nat.reduceLeDiff, Nat.reduceMul, Nat.reduceBEq, reduceIte, i, Try.results37, ownP_nil, (by simp : ((0 : Int) < 0) = False)]
  · have h2 := m_auto_clone_ne (TB := TB) a0 hne r0 h d G
    have hl : r0.f2.map cTMove ≠ [] := by
      unfold m_auto_clone at h
      obtain ⟨r1, hr1, h⟩ := bs h
      obtain ⟨r2, hr2, h⟩ := bs h
      obtain ⟨v, hv, h⟩ := bs h
      cases h
      unfold m_slices_Clone_api_Move at hr2
      obtain ⟨_, _, hr2⟩ := bs hr2
      cases hr2
      have : v.length = a0.f2.length := loopO_ind (P := fun a => a.2.length = a0.f2.length) (Q := fun x => x.length = a0.f2.length) (fun a a1 hb hp => by
        obtain ⟨i, l⟩ := a
        unfold m_auto_clone_L0 at hb
        rcases ib hb with ⟨_, hb⟩ | ⟨_, hb⟩
        · obtain ⟨_, _, hb⟩ := bs hb
          obtain ⟨_, _, hb⟩ := bs hb
          obtain ⟨_, _, hb⟩ := bs hb
          obtain ⟨_, _, hb⟩ := bs hb
          cases hb
          simpa using hp
        · cases hb) (fun a x hb hp => by
        obtain ⟨i, l⟩ := a
        unfold m_auto_clone_L0 at hb
        rcases ib hb with ⟨_, hb⟩ | ⟨_, hb⟩
        · obtain ⟨_, _, hb⟩ := bs hb
          obtain ⟨_, _, hb⟩ := bs hb
          obtain ⟨_, _, hb⟩ := bs hb
          obtain ⟨_, _, hb⟩ := bs hb
          cases hb
        · cases hb; exact hp) hv rfl
      intro e
      have e2 := congrArg List.length e
      simp at e2
      subst e2
      exact hne (List.eq_nil_of_length_eq_zero this.symm)
    rw [ownP_ne hl]
    exact h2
theorem m_slices_IndexFunc_api_Out_op (d : Nat) (G : Heap) (a0 : List TOut) (a1 : (TOut → Option Bool)) (n1 : FuncId) (q1 : List GV) (hc1 : okds d q1) (hf1 : ∀ x0 r, a1 x0 = some r → ∀ (e : Nat) (G1 : Heap), d ≤ e → agree d G1 G → Tel Try.prog TB e n1 ([.agg ((cTOut x0).map .p)] ++ q1) G1 (.p (.bool r)) G1) (r0 : Int) (h : m_slices_IndexFunc_api_Out a0 a1 = some r0) : Tel Try.prog TB d 61 [.p (.sl (a0.map cTOut)), .fn n1 q1] G (.p (.int .i64 r0)) G := by
  unfold m_slices_IndexFunc_api_Out at h
  refine Tel.intro mix Try.func61 rfl (Nat.le_of_ble_eq_true rfl) {openAt := fun t => t == 16} (by kernel_rfl) (by kernel_rfl) ?_
  generalize hQ : callPost _ _ _ _ _ = Q
  simp -implicitDefEqProofs only [go_sem, Nat.reduceEqDiff, Nat.reduceAdd, Nat.reduceLT, Nat.reduceLeDiff, Nat.reduceMul, Nat.reduceBEq, reduceIte]
  obtain ⟨z3, hL3, h⟩ := bs h
  obtain ⟨I3, hI3⟩ : ∃ I : Int → St → Prop, I = fun v4 s => s.G = cut d G ∧ s.F 0 = .p (.sl (a0.map cTOut)) ∧ s.F 1 = .fn n1 q1 ∧ s.F 7 = .p (.int .i64 (a0.length : Int)) ∧ s.F 8 = .p (.int .i64 v4) ∧ True := ⟨_, rfl⟩
  obtain ⟨R3, hR3⟩ : ∃ R : ((Unit) ⊕ (Int)) → GE → St → Prop, R = fun x e s => match x with | .inl _ => e = .exit 0 ∧ s.G = cut d G ∧ True | .inr r => e = .ret ∧ (r = r0 → Q .ret s) := ⟨_, rfl⟩
  refine lp (ts := []) rfl hL3 I3 R3 ?_ ?_ ?_
  · rw [hI3]
    simp -implicitDefEqProofs only [go_sem, Nat.reduceEqDiff, Nat.reduceAdd, Nat.reduceLT, Nat.reduceLeDiff, Nat.reduceMul, Nat.reduceBEq, reduceIte]
  · clear h hL3
    rintro v4 y s h i
    rw [hI3] at i
    obtain ⟨gi3, i3⟩ := i
    replace h : m_slices_IndexFunc_api_Out_L0 a0 a1 (v4) = some y := h
    unfold m_slices_IndexFunc_api_Out_L0 at h
    rcases ib h with ⟨c5, h⟩ | ⟨c5, h⟩
    · obtain ⟨v6, hv6, h⟩ := bs h
      replace hv6 := gis hv6
      obtain ⟨r7, hr7, h⟩ := bs h
      simp -implicitDefEqProofs only [go_sem, Nat.reduceEqDiff, Nat.reduceAdd, Nat.reduceLT, Nat.reduceLeDiff, Nat.reduceMul, Nat.reduceBEq, reduceIte, gi3, i3, c5, hv6]
      refine call_same (r' := .p (.bool r7)) (hf1 v6 r7 hr7 (d + 1) _ (Nat.le_succ d) (by simp -implicitDefEqProofs only [go_sem, Nat.reduceEqDiff, Nat.reduceAdd, Nat.reduceLT, Nat.reduceLeDiff, Nat.reduceMul, Nat.reduceBEq, reduceIte, gi3, i3, c5, hv6])) (by simp -implicitDefEqProofs only [go_sem, Nat.reduceEqDiff, Nat.reduceAdd, Nat.reduceLT, Nat.reduceLeDiff, Nat.reduceMul, Nat.reduceBEq, reduceIte, gi3, i3, c5, hv6]) rfl (by simp -implicitDefEqProofs only [go_sem, Nat.reduceEqDiff, Nat.reduceAdd, Nat.reduceLT, Nat.reduceLeDiff, Nat.reduceMul, Nat.reduceBEq, reduceIte, gi3, i3, c5, hv6]) (by simp -implicitDefEqProofs only [go_sem, Nat.reduceEqDiff, Nat.reduceAdd, Nat.reduceLT, Nat.reduceLeDiff, Nat.reduceMul, Nat.reduceBEq, reduceIte]) ?_
      rcases ib h with ⟨c8, h⟩ | ⟨c8, h⟩
      · cases h
        simp -implicitDefEqProofs only [go_sem, Nat.reduceEqDiff, Nat.reduceAdd, Nat.reduceLT, Nat.reduceLeDiff, Nat.reduceMul, Nat.reduceBEq, reduceIte, gi3, i3, c5, hv6, c8]
        rw [hR3]
        refine ⟨rfl, ?_⟩
        intro hr
        subst hr
        subst hQ
        simp -implicitDefEqProofs only [go_sem, Nat.reduceEqDiff, Nat.reduceAdd, Nat.reduceLT, Nat.reduceLeDiff, Nat.reduceMul, Nat.reduceBEq, reduceIte, gi3, i3, c5, hv6, c8, Try.results61]
      · cases h
        simp -implicitDefEqProofs only [go_sem, Nat.reduceEqDiff, Nat.reduceAdd, Nat.reduceLT, Nat.reduceLeDiff, Nat.reduceMul, Nat.reduceBEq, reduceIte, gi3, i3, c5, hv6, c8]
        rw [hI3]
        simp -implicitDefEqProofs only [go_sem, Nat.reduceEqDiff, Nat.reduceAdd, Nat.reduceLT, Nat.reduceLeDiff, Nat.reduceMul, Nat.reduceBEq, reduceIte, gi3, i3, c5, hv6, c8]
    · cases h
      simp -implicitDefEqProofs only [go_sem, Nat.reduceEqDiff, Nat.reduceAdd, Nat.reduceLT, Nat.reduceLeDiff, Nat.reduceMul, Nat.reduceBEq, reduceIte, gi3, i3, c5]
      rw [hR3]
      refine ⟨rfl, ?_⟩
      simp -implicitDefEqProofs only [go_sem, Nat.reduceEqDiff, Nat.reduceAdd, Nat.reduceLT, Nat.reduceLeDiff, Nat.reduceMul, Nat.reduceBEq, reduceIte, gi3, i3, c5]
  · clear hL3 hI3
    intro e s hr3
    rw [hR3] at hr3
    clear hR3
    rcases z3 with _ | r
    · try dsimp only at h hr3
      obtain ⟨rfl, gi9, i9⟩ := hr3
      cases h
      subst hQ
      simp -implicitDefEqProofs only [go_sem, Nat.reduceEqDiff, Nat.reduceAdd, Nat.reduceLT, Nat.reduceLeDiff, Nat.reduceMul, Nat.reduceBEq, reduceIte, gi9, i9, Try.results61]
    · try dsimp only at h hr3
      obtain ⟨rfl, hr3⟩ := hr3
      cases h
      try simp -implicitDefEqProofs only [go_sem, Nat.reduceEqDiff, Nat.reduceAdd, Nat.reduceLT, Nat.reduceLeDiff, Nat.reduceMul, Nat.reduceBEq, reduceIte]
      exact hr3 rfl
theorem m_slices_ContainsFunc_api_Out_op (d : Nat) (G : Heap) (a0 : List TOut) (a1 : (TOut → Option Bool)) (n1 : FuncId) (q1 : List GV) (hc1 : okds d q1) (hf1 : ∀ x0 r, a1 x0 = some r → ∀ (e : Nat) (G1 : Heap), d ≤ e → agree d G1 G → Tel Try.prog TB e n1 ([.agg ((cTOut x0).map .p)] ++ q1) G1 (.p (.bool r)) G1) (r0 : Bool) (h : m_slices_ContainsFunc_api_Out a0 a1 = some r0) : Tel Try.prog TB d 42 [.p (.sl (a0.map cTOut)), .fn n1 q1] G (.p (.bool r0)) G := by
  unfold m_slices_ContainsFunc_api_Out at h
  refine Tel.intro mix Try.func42 rfl (Nat.le_of_ble_eq_true rfl) {openAt := fun t => t == 7} (by kernel_rfl) (by kernel_rfl) ?_
  generalize hQ : callPost _ _ _ _ _ = Q
  obtain ⟨r1, hr1, h⟩ := bs h
  simp -implicitDefEqProofs only [go_sem, Nat.reduceEqDiff, Nat.reduceAdd, Nat.reduceLT, Nat.reduceLeDiff, Nat.reduceMul, Nat.reduceBEq, reduceIte]
  refine call_same (r' := .p (.int .i64 r1)) (m_slices_IndexFunc_api_Out_op (d + 1) _ a0 a1 n1 q1 (okds_up _ hc1) (fun y0 r h e G1 he ha => hf1 y0 r h e G1 (by omega) (agree_down ha (by simp -implicitDefEqProofs only [go_sem, Nat.reduceEqDiff, Nat.reduceAdd, Nat.reduceLT, Nat.reduceLeDiff, Nat.reduceMul, Nat.reduceBEq, reduceIte]))) r1 hr1) (by simp -implicitDefEqProofs only [go_sem, Nat.reduceEqDiff, Nat.reduceAdd, Nat.reduceLT, Nat.reduceLeDiff, Nat.reduceMul, Nat.reduceBEq, reduceIte]) rfl (by simp -implicitDefEqProofs only [go_sem, Nat.reduceEqDiff, Nat.reduceAdd, Nat.reduceLT, Nat.reduceLeDiff, Nat.reduceMul, Nat.reduceBEq, reduceIte]) (by simp -implicitDefEqProofs only [go_sem, Nat.reduceEqDiff, Nat.reduceAdd, Nat.reduceLT, Nat.reduceLeDiff, Nat.reduceMul, Nat.reduceBEq, reduceIte]) ?_
  cases h
  subst hQ
  simp -implicitDefEqProofs only [go_sem, Nat.reduceEqDiff, Nat.reduceAdd, Nat.reduceLT, Nat.reduceLeDiff, Nat.reduceMul, Nat.reduceBEq, reduceIte, Try.results42]
theorem m_auto_move_2_op (a0 : TOut) (u0 : TProto) (r0 : Bool) (h : m_auto_move_2 a0 u0 = some r0) (d : Nat) (G : Heap) (e5 t5 c5 e2 t2 c2 : Nat) (h5 : e5 ≤ d) (h2 : e2 ≤ d) (g5 : get G (e5, t5, c5) = some (.box [.fn 52 [.bp (e2, t2, c2) 0]])) (g2 : get G (e2, t2, c2) = some (.box ((cTProto u0).map .p))) : Tel Try.prog TB d 53 [.agg ((cTOut a0).map .p), .bp (e5, t5, c5) 0] G (.p (.bool r0)) G := by
  unfold m_auto_move_2 at h
  obtain ⟨r1, hr1, h⟩ := bs h
  cases h
  have q5 : (e5 = d + 1) = False := by simp; omega
  have q2 : (e2 = d + 1) = False := by simp; omega
  have l2 : (e2 ≤ d + 1) = True := by simp; omega
  have k5 : get (cut d G) (e5, t5, c5) = some (.box [.fn 52 [.bp (e2, t2, c2) 0]]) := by rw [get_cut, if_pos h5]; exact g5
  have k2 : get (cut d G) (e2, t2, c2) = some (.box ((cTProto u0).map .p)) := by rw [get_cut, if_pos h2]; exact g2
  refine Tel.intro mix Try.func53 rfl (Nat.le_of_ble_eq_true rfl) {borAt := fun t => t == 7} (by kernel_rfl) (by kernel_rfl) ?_
  simp -implicitDefEqProofs only [go_sem, Nat.reduceEqDiff, Nat.reduceAdd, Nat.reduceLT, Nat.reduceLeDiff, Nat.reduceMul, Nat.reduceBEq, reduceIte, k5, q5]
  refine call_look (m_auto_move_1_ev a0.f1 u0 r1 hr1 (d + 1) empty) (by simp -implicitDefEqProofs only [go_sem, Nat.reduceEqDiff, Nat.reduceAdd, Nat.reduceLT, Nat.reduceLeDiff, Nat.reduceMul, Nat.reduceBEq, reduceIte, k2, q2, l2]) (by simp -implicitDefEqProofs only [go_sem, Nat.reduceEqDiff, Nat.reduceAdd, Nat.reduceLT, Nat.reduceLeDiff, Nat.reduceMul, Nat.reduceBEq, reduceIte]) (by simp -implicitDefEqProofs only [go_sem, Nat.reduceEqDiff, Nat.reduceAdd, Nat.reduceLT, Nat.reduceLeDiff, Nat.reduceMul, Nat.reduceBEq, reduceIte]) ?_ rfl
  simp -implicitDefEqProofs only [go_sem, Nat.reduceEqDiff, Nat.reduceAdd, Nat.reduceLT, Nat.reduceLeDiff, Nat.reduceMul, Nat.reduceBEq, reduceIte, Try.results53]
theorem m_auto_move_ev (a0 : TProto) (a1 : TMove) (r0 : Bool) (h : m_auto_move a0 a1 = some r0) (d : Nat) (G : Heap) : Tel Try.prog TB d 31 [.agg ((cTProto a0).map .p), .agg ((cTMove a1).map .p)] G (.p (.bool r0)) G := by
  unfold m_auto_move at h
  refine Tel.intro mix Try.func31 rfl (Nat.le_of_ble_eq_true rfl) {openAt := fun t => t == 21, borAt := fun t => t == 10} (by kernel_rfl) (by kernel_rfl) ?_
  generalize hQ : callPost _ _ _ _ _ = Q
  obtain ⟨r1, hr1, h⟩ := bs h
  simp -implicitDefEqProofs only [go_sem, Nat.reduceEqDiff, Nat.reduceAdd, Nat.reduceLT, Nat.reduceLeDiff, Nat.reduceMul, Nat.reduceBEq, reduceIte]
  refine call_look (m_auto_move_1_ev a1.f1 a0 r1 hr1 (d + 1) empty) (by simp -implicitDefEqProofs only [go_sem, Nat.reduceEqDiff, Nat.reduceAdd, Nat.reduceLT, Nat.reduceLeDiff, Nat.reduceMul, Nat.reduceBEq, reduceIte]) (by simp -implicitDefEqProofs only [go_sem, Nat.reduceEqDiff, Nat.reduceAdd, Nat.reduceLT, Nat.reduceLeDiff, Nat.reduceMul, Nat.reduceBEq, reduceIte]) (by simp -implicitDefEqProofs only [go_sem, Nat.reduceEqDiff, Nat.reduceAdd, Nat.reduceLT, Nat.reduceLeDiff, Nat.reduceMul, Nat.reduceBEq, reduceIte]) ?_ rfl
  rcases ib h with ⟨c2, h⟩ | ⟨c2, h⟩
  · rcases ib h with ⟨c3, h⟩ | ⟨c3, h⟩
    · obtain ⟨r4, hr4, h⟩ := bs h
      simp -implicitDefEqProofs only [go_sem, Nat.reduceEqDiff, Nat.reduceAdd, Nat.reduceLT, Nat.reduceLeDiff, Nat.reduceMul, Nat.reduceBEq, reduceIte, c2, c3]
      refine call_same (r' := .p (.bool r4)) (m_slices_ContainsFunc_api_Out_op (d + 1) _ a1.f2 (fun x0 => m_auto_move_2 x0 a0) 53 [.bp (d + 1, 5, 0) 0] (by simp -implicitDefEqProofs only [go_sem, Nat.reduceEqDiff, Nat.reduceAdd, Nat.reduceLT, Nat.reduceLeDiff, Nat.reduceMul, Nat.reduceBEq, reduceIte]) (fun x r h e G1 he ha => m_auto_move_2_op x _ r h e G1 (d + 1) 5 0 (d + 1) 2 0 he he ((agree_get ha (Nat.le_refl _)).trans (by simp -implicitDefEqProofs only [go_sem, Nat.reduceEqDiff, Nat.reduceAdd, Nat.reduceLT, Nat.reduceLeDiff, Nat.reduceMul, Nat.reduceBEq, reduceIte, c2, c3])) ((agree_get ha (Nat.le_refl _)).trans (by simp -implicitDefEqProofs only [go_sem, Nat.reduceEqDiff, Nat.reduceAdd, Nat.reduceLT, Nat.reduceLeDiff, Nat.reduceMul, Nat.reduceBEq, reduceIte, c2, c3]))) r4 hr4) (by simp -implicitDefEqProofs only [go_sem, Nat.reduceEqDiff, Nat.reduceAdd, Nat.reduceLT, Nat.reduceLeDiff, Nat.reduceMul, Nat.reduceBEq, reduceIte, c2, c3]) rfl (by simp -implicitDefEqProofs only [go_sem, Nat.reduceEqDiff, Nat.reduceAdd, Nat.reduceLT, Nat.reduceLeDiff, Nat.reduceMul, Nat.reduceBEq, reduceIte, c2, c3]) (by simp -implicitDefEqProofs only [go_sem, Nat.reduceEqDiff, Nat.reduceAdd, Nat.reduceLT, Nat.reduceLeDiff, Nat.reduceMul, Nat.reduceBEq, reduceIte]) ?_
      cases h
      subst hQ
      simp -implicitDefEqProofs only [go_sem, Nat.reduceEqDiff, Nat.reduceAdd, Nat.reduceLT, Nat.reduceLeDiff, Nat.reduceMul, Nat.reduceBEq, reduceIte, c2, c3, Try.results31]
    · cases h
      subst hQ
      simp -implicitDefEqProofs only [go_sem, Nat.reduceEqDiff, Nat.reduceAdd, Nat.reduceLT, Nat.reduceLeDiff, Nat.reduceMul, Nat.reduceBEq, reduceIte, c2, c3, Try.results31]
  · cases h
    subst hQ
    simp -implicitDefEqProofs only [go_sem, Nat.reduceEqDiff, Nat.reduceAdd, Nat.reduceLT, Nat.reduceLeDiff, Nat.reduceMul, Nat.reduceBEq, reduceIte, c2, Try.results31]
theorem m_auto_Wrong_ev (a0 : TProto) (r0 : Int × Int) (h : m_auto_Wrong a0 = some r0) (d : Nat) (G : Heap) : Tel Try.prog TB d 10 [.agg ((cTProto a0).map .p)] G (.tup [.p (.int .i64 r0.1), .p (.int .i64 r0.2)]) G := by
  unfold m_auto_Wrong at h
  refine Tel.intro mix Try.func10 rfl (Nat.le_of_ble_eq_true rfl) {frzAt := fun t => t == 13 || t == 27 || t == 39 || t == 61, clean := fun r => if r = 5 then [6] else if r = 17 then [9] else []} (by kernel_rfl) (by kernel_rfl) ?_
  generalize hQ : callPost _ _ _ _ _ = Q
  obtain ⟨r1, hr1, h⟩ := bs h
  simp -implicitDefEqProofs only [go_sem, Nat.reduceEqDiff, Nat.reduceAdd, Nat.reduceLT, Nat.reduceLeDiff, Nat.reduceMul, Nat.reduceBEq, reduceIte]
  refine call_frz (r' := .p (.int .i64 r1)) (m_auto_states_ev a0 r1 hr1 (d + 1) empty) (by simp -implicitDefEqProofs only [go_sem, Nat.reduceEqDiff, Nat.reduceAdd, Nat.reduceLT, Nat.reduceLeDiff, Nat.reduceMul, Nat.reduceBEq, reduceIte]) rfl (by simp -implicitDefEqProofs only [go_sem, Nat.reduceEqDiff, Nat.reduceAdd, Nat.reduceLT, Nat.reduceLeDiff, Nat.reduceMul, Nat.reduceBEq, reduceIte]) (by simp -implicitDefEqProofs only [go_sem, Nat.reduceEqDiff, Nat.reduceAdd, Nat.reduceLT, Nat.reduceLeDiff, Nat.reduceMul, Nat.reduceBEq, reduceIte]) ?_ rfl rfl
  rcases ib h with ⟨c2, h⟩ | ⟨c2, h⟩
  · cases h
    subst hQ
    simp -implicitDefEqProofs only [go_sem, Nat.reduceEqDiff, Nat.reduceAdd, Nat.reduceLT, Nat.reduceLeDiff, Nat.reduceMul, Nat.reduceBEq, reduceIte, c2, Try.results10]
  · simp -implicitDefEqProofs only [go_sem, Nat.reduceEqDiff, Nat.reduceAdd, Nat.reduceLT, Nat.reduceLeDiff, Nat.reduceMul, Nat.reduceBEq, reduceIte, c2]
    obtain ⟨z5, hL5, h⟩ := bs h
    obtain ⟨I5, hI5⟩ : ∃ I : Int → St → Prop, I = fun v6 s => s.G = fillKey (cut d G) (d + 1) 1 [.box [.p (.str a0.f0), .p (.sl (a0.f1.map cTState)), .p (.sl (a0.f2.map cTMove))]] ∧ s.F 1 = .bp (d + 1, 1, 0) 0 ∧ s.F 18 = .p (.sl (a0.f2.map cTMove)) ∧ s.F 19 = .p (.int .i64 (a0.f2.length : Int)) ∧ s.F 20 = .p (.int .i64 v6) ∧ True := ⟨_, rfl⟩
    obtain ⟨R5, hR5⟩ : ∃ R : ((Unit) ⊕ (Int × Int)) → GE → St → Prop, R = fun x e s => match x with | .inl _ => e = .exit 0 ∧ s.G = fillKey (cut d G) (d + 1) 1 [.box [.p (.str a0.f0), .p (.sl (a0.f1.map cTState)), .p (.sl (a0.f2.map cTMove))]] ∧ s.F 1 = .bp (d + 1, 1, 0) 0 ∧ True | .inr r => e = .ret ∧ (r = r0 → Q .ret s) := ⟨_, rfl⟩
    refine lp (ts := [6]) rfl hL5 I5 R5 ?_ ?_ ?_
    · rw [hI5]
      simp -implicitDefEqProofs only [go_sem, Nat.reduceEqDiff, Nat.reduceAdd, Nat.reduceLT, Nat.reduceLeDiff, Nat.reduceMul, Nat.reduceBEq, reduceIte, c2]
    · clear h hL5
      rintro v6 y s h i
      rw [hI5] at i
      obtain ⟨gi5, i5⟩ := i
      replace h : m_auto_Wrong_L0 a0 (v6) = some y := h
      unfold m_auto_Wrong_L0 at h
      rcases ib h with ⟨c7, h⟩ | ⟨c7, h⟩
      · obtain ⟨v8, hv8, h⟩ := bs h
        replace hv8 := gis hv8
        obtain ⟨r9, hr9, h⟩ := bs h
        simp -implicitDefEqProofs only [go_sem, Nat.reduceEqDiff, Nat.reduceAdd, Nat.reduceLT, Nat.reduceLeDiff, Nat.reduceMul, Nat.reduceBEq, reduceIte, c2, gi5, i5, c7, hv8]
        refine call_frz (r' := .p (.bool r9)) (m_auto_move_ev a0 v8 r9 hr9 (d + 1) empty) (by simp -implicitDefEqProofs only [go_sem, Nat.reduceEqDiff, Nat.reduceAdd, Nat.reduceLT, Nat.reduceLeDiff, Nat.reduceMul, Nat.reduceBEq, reduceIte, c2, gi5, i5, c7, hv8]) rfl (by simp -implicitDefEqProofs only [go_sem, Nat.reduceEqDiff, Nat.reduceAdd, Nat.reduceLT, Nat.reduceLeDiff, Nat.reduceMul, Nat.reduceBEq, reduceIte]) (by simp -implicitDefEqProofs only [go_sem, Nat.reduceEqDiff, Nat.reduceAdd, Nat.reduceLT, Nat.reduceLeDiff, Nat.reduceMul, Nat.reduceBEq, reduceIte]) ?_ rfl rfl
        rcases ib h with ⟨c10, h⟩ | ⟨c10, h⟩
        · cases h
          simp -implicitDefEqProofs only [go_sem, Nat.reduceEqDiff, Nat.reduceAdd, Nat.reduceLT, Nat.reduceLeDiff, Nat.reduceMul, Nat.reduceBEq, reduceIte, c2, gi5, i5, c7, hv8, c10]
          rw [hR5]
          refine ⟨rfl, ?_⟩
          intro hr
          subst hr
          subst hQ
          simp -implicitDefEqProofs only [go_sem, Nat.reduceEqDiff, Nat.reduceAdd, Nat.reduceLT, Nat.reduceLeDiff, Nat.reduceMul, Nat.reduceBEq, reduceIte, c2, gi5, i5, c7, hv8, c10, Try.results10]
        · cases h
          simp -implicitDefEqProofs only [go_sem, Nat.reduceEqDiff, Nat.reduceAdd, Nat.reduceLT, Nat.reduceLeDiff, Nat.reduceMul, Nat.reduceBEq, reduceIte, c2, gi5, i5, c7, hv8, c10]
          rw [hI5]
          simp -implicitDefEqProofs only [go_sem, Nat.reduceEqDiff, Nat.reduceAdd, Nat.reduceLT, Nat.reduceLeDiff, Nat.reduceMul, Nat.reduceBEq, reduceIte, c2, gi5, i5, c7, hv8, c10]
      · cases h
        simp -implicitDefEqProofs only [go_sem, Nat.reduceEqDiff, Nat.reduceAdd, Nat.reduceLT, Nat.reduceLeDiff, Nat.reduceMul, Nat.reduceBEq, reduceIte, c2, gi5, i5, c7]
        rw [hR5]
        refine ⟨rfl, ?_⟩
        simp -implicitDefEqProofs only [go_sem, Nat.reduceEqDiff, Nat.reduceAdd, Nat.reduceLT, Nat.reduceLeDiff, Nat.reduceMul, Nat.reduceBEq, reduceIte, c2, gi5, i5, c7]
    · clear hL5 hI5
      intro e s hr5
      rw [hR5] at hr5
      clear hR5
      rcases z5 with _ | r
      · try dsimp only at h hr5
        obtain ⟨rfl, gi11, i11⟩ := hr5
        simp -implicitDefEqProofs only [go_sem, Nat.reduceEqDiff, Nat.reduceAdd, Nat.reduceLT, Nat.reduceLeDiff, Nat.reduceMul, Nat.reduceBEq, reduceIte, c2, gi11, i11]
        obtain ⟨z14, hL14, h⟩ := bs h
        obtain ⟨I14, hI14⟩ : ∃ I : Int → St → Prop, I = fun v15 s => s.G = fillKey (cut d G) (d + 1) 1 [.box [.p (.str a0.f0), .p (.sl (a0.f1.map cTState)), .p (.sl (a0.f2.map cTMove))]] ∧ s.F 1 = .bp (d + 1, 1, 0) 0 ∧ s.F 33 = .p (.int .i64 (a0.f2.length : Int)) ∧ s.F 34 = .p (.int .i64 v15) ∧ True := ⟨_, rfl⟩
        obtain ⟨R14, hR14⟩ : ∃ R : ((Unit) ⊕ (Int × Int)) → GE → St → Prop, R = fun x e s => match x with | .inl _ => e = .exit 2 ∧ s.G = fillKey (cut d G) (d + 1) 1 [.box [.p (.str a0.f0), .p (.sl (a0.f1.map cTState)), .p (.sl (a0.f2.map cTMove))]] ∧ s.F 1 = .bp (d + 1, 1, 0) 0 ∧ True | .inr r => e = .ret ∧ (r = r0 → Q .ret s) := ⟨_, rfl⟩
        refine lp (ts := []) rfl hL14 I14 R14 ?_ ?_ ?_
        · rw [hI14]
          simp -implicitDefEqProofs only [go_sem, Nat.reduceEqDiff, Nat.reduceAdd, Nat.reduceLT, Nat.reduceLeDiff, Nat.reduceMul, Nat.reduceBEq, reduceIte, c2, gi11, i11]
        · clear h hL14
          rintro v15 y s h i
          rw [hI14] at i
          obtain ⟨gi14, i14⟩ := i
          replace h : m_auto_Wrong_L1 a0 (v15) = some y := h
          unfold m_auto_Wrong_L1 at h
          rcases ib h with ⟨c16, h⟩ | ⟨c16, h⟩
          · obtain ⟨r17, hr17, h⟩ := bs h
            simp -implicitDefEqProofs only [go_sem, Nat.reduceEqDiff, Nat.reduceAdd, Nat.reduceLT, Nat.reduceLeDiff, Nat.reduceMul, Nat.reduceBEq, reduceIte, c2, gi11, i11, gi14, i14, c16]
            refine call_frz (r' := .p (.bool r17)) (m_auto_once_ev a0 v15 r17 hr17 (d + 1) empty) (by simp -implicitDefEqProofs only [go_sem, Nat.reduceEqDiff, Nat.reduceAdd, Nat.reduceLT, Nat.reduceLeDiff, Nat.reduceMul, Nat.reduceBEq, reduceIte, c2, gi11, i11, gi14, i14, c16]) rfl (by simp -implicitDefEqProofs only [go_sem, Nat.reduceEqDiff, Nat.reduceAdd, Nat.reduceLT, Nat.reduceLeDiff, Nat.reduceMul, Nat.reduceBEq, reduceIte]) (by simp -implicitDefEqProofs only [go_sem, Nat.reduceEqDiff, Nat.reduceAdd, Nat.reduceLT, Nat.reduceLeDiff, Nat.reduceMul, Nat.reduceBEq, reduceIte]) ?_ rfl rfl
            rcases ib h with ⟨c18, h⟩ | ⟨c18, h⟩
            · cases h
              simp -implicitDefEqProofs only [go_sem, Nat.reduceEqDiff, Nat.reduceAdd, Nat.reduceLT, Nat.reduceLeDiff, Nat.reduceMul, Nat.reduceBEq, reduceIte, c2, gi11, i11, gi14, i14, c16, c18]
              rw [hR14]
              refine ⟨rfl, ?_⟩
              intro hr
              subst hr
              subst hQ
              simp -implicitDefEqProofs only [go_sem, Nat.reduceEqDiff, Nat.reduceAdd, Nat.reduceLT, Nat.reduceLeDiff, Nat.reduceMul, Nat.reduceBEq, reduceIte, c2, gi11, i11, gi14, i14, c16, c18, Try.results10]
            · cases h
              simp -implicitDefEqProofs only [go_sem, Nat.reduceEqDiff, Nat.reduceAdd, Nat.reduceLT, Nat.reduceLeDiff, Nat.reduceMul, Nat.reduceBEq, reduceIte, c2, gi11, i11, gi14, i14, c16, c18]
              rw [hI14]
              simp -implicitDefEqProofs only [go_sem, Nat.reduceEqDiff, Nat.reduceAdd, Nat.reduceLT, Nat.reduceLeDiff, Nat.reduceMul, Nat.reduceBEq, reduceIte, c2, gi11, i11, gi14, i14, c16, c18]
          · cases h
            simp -implicitDefEqProofs only [go_sem, Nat.reduceEqDiff, Nat.reduceAdd, Nat.reduceLT, Nat.reduceLeDiff, Nat.reduceMul, Nat.reduceBEq, reduceIte, c2, gi11, i11, gi14, i14, c16]
            rw [hR14]
            refine ⟨rfl, ?_⟩
            simp -implicitDefEqProofs only [go_sem, Nat.reduceEqDiff, Nat.reduceAdd, Nat.reduceLT, Nat.reduceLeDiff, Nat.reduceMul, Nat.reduceBEq, reduceIte, c2, gi11, i11, gi14, i14, c16]
        · clear hL14 hI14
          intro e s hr14
          rw [hR14] at hr14
          clear hR14
          rcases z14 with _ | r
          · try dsimp only at h hr14
            obtain ⟨rfl, gi19, i19⟩ := hr14
            simp -implicitDefEqProofs only [go_sem, Nat.reduceEqDiff, Nat.reduceAdd, Nat.reduceLT, Nat.reduceLeDiff, Nat.reduceMul, Nat.reduceBEq, reduceIte, c2, gi11, i11, gi19, i19]
            obtain ⟨z22, hL22, h⟩ := bs h
            obtain ⟨I22, hI22⟩ : ∃ I : Int → St → Prop, I = fun v23 s => s.G = fillKey (cut d G) (d + 1) 1 [.box [.p (.str a0.f0), .p (.sl (a0.f1.map cTState)), .p (.sl (a0.f2.map cTMove))]] ∧ s.F 1 = .bp (d + 1, 1, 0) 0 ∧ s.F 44 = .p (.sl (a0.f2.map cTMove)) ∧ s.F 45 = .p (.int .i64 (a0.f2.length : Int)) ∧ s.F 46 = .p (.int .i64 v23) ∧ True := ⟨_, rfl⟩
            obtain ⟨R22, hR22⟩ : ∃ R : ((Unit) ⊕ (Int × Int)) → GE → St → Prop, R = fun x e s => match x with | .inl _ => e = .exit 4 ∧ s.G = fillKey (cut d G) (d + 1) 1 [.box [.p (.str a0.f0), .p (.sl (a0.f1.map cTState)), .p (.sl (a0.f2.map cTMove))]] ∧ s.F 1 = .bp (d + 1, 1, 0) 0 ∧ True | .inr r => e = .ret ∧ (r = r0 → Q .ret s) := ⟨_, rfl⟩
            refine lp (ts := [9]) rfl hL22 I22 R22 ?_ ?_ ?_
            · rw [hI22]
              simp -implicitDefEqProofs only [go_sem, Nat.reduceEqDiff, Nat.reduceAdd, Nat.reduceLT, Nat.reduceLeDiff, Nat.reduceMul, Nat.reduceBEq, reduceIte, c2, gi11, i11, gi19, i19]
            · clear h hL22
              rintro v23 y s h i
              rw [hI22] at i
              obtain ⟨gi22, i22⟩ := i
              replace h : m_auto_Wrong_L2 a0 (v23) = some y := h
              unfold m_auto_Wrong_L2 at h
              rcases ib h with ⟨c24, h⟩ | ⟨c24, h⟩
              · obtain ⟨v25, hv25, h⟩ := bs h
                replace hv25 := gis hv25
                obtain ⟨v26, hv26, h⟩ := bs h
                replace hv26 := gis hv26
                rcases ib h with ⟨c27, h⟩ | ⟨c27, h⟩
                · cases h
                  simp -implicitDefEqProofs only [go_sem, Nat.reduceEqDiff, Nat.reduceAdd, Nat.reduceLT, Nat.reduceLeDiff, Nat.reduceMul, Nat.reduceBEq, reduceIte, c2, gi11, i11, gi19, i19, gi22, i22, c24, hv25, hv26, c27]
                  rw [hR22]
                  refine ⟨rfl, ?_⟩
                  intro hr
                  subst hr
                  subst hQ
                  simp -implicitDefEqProofs only [go_sem, Nat.reduceEqDiff, Nat.reduceAdd, Nat.reduceLT, Nat.reduceLeDiff, Nat.reduceMul, Nat.reduceBEq, reduceIte, c2, gi11, i11, gi19, i19, gi22, i22, c24, hv25, hv26, c27, Try.results10]
                · cases h
                  simp -implicitDefEqProofs only [go_sem, Nat.reduceEqDiff, Nat.reduceAdd, Nat.reduceLT, Nat.reduceLeDiff, Nat.reduceMul, Nat.reduceBEq, reduceIte, c2, gi11, i11, gi19, i19, gi22, i22, c24, hv25, hv26, c27]
                  rw [hI22]
                  simp -implicitDefEqProofs only [go_sem, Nat.reduceEqDiff, Nat.reduceAdd, Nat.reduceLT, Nat.reduceLeDiff, Nat.reduceMul, Nat.reduceBEq, reduceIte, c2, gi11, i11, gi19, i19, gi22, i22, c24, hv25, hv26, c27]
              · cases h
                simp -implicitDefEqProofs only [go_sem, Nat.reduceEqDiff, Nat.reduceAdd, Nat.reduceLT, Nat.reduceLeDiff, Nat.reduceMul, Nat.reduceBEq, reduceIte, c2, gi11, i11, gi19, i19, gi22, i22, c24]
                rw [hR22]
                refine ⟨rfl, ?_⟩
                simp -implicitDefEqProofs only [go_sem, Nat.reduceEqDiff, Nat.reduceAdd, Nat.reduceLT, Nat.reduceLeDiff, Nat.reduceMul, Nat.reduceBEq, reduceIte, c2, gi11, i11, gi19, i19, gi22, i22, c24]
            · clear hL22 hI22
              intro e s hr22
              rw [hR22] at hr22
              clear hR22
              rcases z22 with _ | r
              · try dsimp only at h hr22
                obtain ⟨rfl, gi28, i28⟩ := hr22
                obtain ⟨r29, hr29, h⟩ := bs h
                simp -implicitDefEqProofs only [go_sem, Nat.reduceEqDiff, Nat.reduceAdd, Nat.reduceLT, Nat.reduceLeDiff, Nat.reduceMul, Nat.reduceBEq, reduceIte, c2, gi11, i11, gi19, i19, gi28, i28]
                refine call_frz (r' := .p (.int .u32 r29)) (m_auto_ends_ev a0 r29 hr29 (d + 1) empty) (by simp -implicitDefEqProofs only [go_sem, Nat.reduceEqDiff, Nat.reduceAdd, Nat.reduceLT, Nat.reduceLeDiff, Nat.reduceMul, Nat.reduceBEq, reduceIte, c2, gi11, i11, gi19, i19, gi28, i28]) rfl (by simp -implicitDefEqProofs only [go_sem, Nat.reduceEqDiff, Nat.reduceAdd, Nat.reduceLT, Nat.reduceLeDiff, Nat.reduceMul, Nat.reduceBEq, reduceIte]) (by simp -implicitDefEqProofs only [go_sem, Nat.reduceEqDiff, Nat.reduceAdd, Nat.reduceLT, Nat.reduceLeDiff, Nat.reduceMul, Nat.reduceBEq, reduceIte]) ?_ rfl rfl
                simp -implicitDefEqProofs only [go_sem, Nat.reduceEqDiff, Nat.reduceAdd, Nat.reduceLT, Nat.reduceLeDiff, Nat.reduceMul, Nat.reduceBEq, reduceIte, c2, gi11, i11, gi19, i19, gi28, i28]
                obtain ⟨z32, hL32, h⟩ := bs h
                obtain ⟨I32, hI32⟩ : ∃ I : Int → St → Prop, I = fun v33 s => s.G = fillKey (cut d G) (d + 1) 1 [.box [.p (.str a0.f0), .p (.sl (a0.f1.map cTState)), .p (.sl (a0.f2.map cTMove))]] ∧ s.F 10 = .p (.int .u32 r29) ∧ s.F 64 = .p (.int .i64 (a0.f1.length : Int)) ∧ s.F 65 = .p (.int .i64 v33) ∧ True := ⟨_, rfl⟩
                obtain ⟨R32, hR32⟩ : ∃ R : ((Unit) ⊕ (Int × Int)) → GE → St → Prop, R = fun x e s => match x with | .inl _ => e = .exit 6 ∧ s.G = fillKey (cut d G) (d + 1) 1 [.box [.p (.str a0.f0), .p (.sl (a0.f1.map cTState)), .p (.sl (a0.f2.map cTMove))]] ∧ True | .inr r => e = .ret ∧ (r = r0 → Q .ret s) := ⟨_, rfl⟩
                refine lp (ts := []) rfl hL32 I32 R32 ?_ ?_ ?_
                · rw [hI32]
                  simp -implicitDefEqProofs only [go_sem, Nat.reduceEqDiff, Nat.reduceAdd, Nat.reduceLT, Nat.reduceLeDiff, Nat.reduceMul, Nat.reduceBEq, reduceIte, c2, gi11, i11, gi19, i19, gi28, i28]
                · clear h hL32
                  rintro v33 y s h i
                  rw [hI32] at i
                  obtain ⟨gi32, i32⟩ := i
                  replace h : m_auto_Wrong_L3 a0 r29 (v33) = some y := h
                  unfold m_auto_Wrong_L3 at h
                  rcases ib h with ⟨c34, h⟩ | ⟨c34, h⟩
                  · obtain ⟨_, c35, h⟩ := bs h
                    replace c35 := rqs c35
                    rcases ib h with ⟨c36, h⟩ | ⟨c36, h⟩
                    · cases h
                      simp -implicitDefEqProofs only [go_sem, Nat.reduceEqDiff, Nat.reduceAdd, Nat.reduceLT, Nat.reduceLeDiff, Nat.reduceMul, Nat.reduceBEq, reduceIte, c2, gi11, i11, gi19, i19, gi28, i28, gi32, i32, c34, c35, c36]
                      rw [hR32]
                      refine ⟨rfl, ?_⟩
                      intro hr
                      subst hr
                      subst hQ
                      simp -implicitDefEqProofs only [go_sem, Nat.reduceEqDiff, Nat.reduceAdd, Nat.reduceLT, Nat.reduceLeDiff, Nat.reduceMul, Nat.reduceBEq, reduceIte, c2, gi11, i11, gi19, i19, gi28, i28, gi32, i32, c34, c35, c36, Try.results10]
                    · cases h
                      simp -implicitDefEqProofs only [go_sem, Nat.reduceEqDiff, Nat.reduceAdd, Nat.reduceLT, Nat.reduceLeDiff, Nat.reduceMul, Nat.reduceBEq, reduceIte, c2, gi11, i11, gi19, i19, gi28, i28, gi32, i32, c34, c35, c36]
                      rw [hI32]
                      simp -implicitDefEqProofs only [go_sem, Nat.reduceEqDiff, Nat.reduceAdd, Nat.reduceLT, Nat.reduceLeDiff, Nat.reduceMul, Nat.reduceBEq, reduceIte, c2, gi11, i11, gi19, i19, gi28, i28, gi32, i32, c34, c35, c36]
                  · cases h
                    simp -implicitDefEqProofs only [go_sem, Nat.reduceEqDiff, Nat.reduceAdd, Nat.reduceLT, Nat.reduceLeDiff, Nat.reduceMul, Nat.reduceBEq, reduceIte, c2, gi11, i11, gi19, i19, gi28, i28, gi32, i32, c34]
                    rw [hR32]
                    refine ⟨rfl, ?_⟩
                    simp -implicitDefEqProofs only [go_sem, Nat.reduceEqDiff, Nat.reduceAdd, Nat.reduceLT, Nat.reduceLeDiff, Nat.reduceMul, Nat.reduceBEq, reduceIte, c2, gi11, i11, gi19, i19, gi28, i28, gi32, i32, c34]
                · clear hL32 hI32
                  intro e s hr32
                  rw [hR32] at hr32
                  clear hR32
                  rcases z32 with _ | r
                  · try dsimp only at h hr32
                    obtain ⟨rfl, gi37, i37⟩ := hr32
                    cases h
                    subst hQ
                    simp -implicitDefEqProofs only [go_sem, Nat.reduceEqDiff, Nat.reduceAdd, Nat.reduceLT, Nat.reduceLeDiff, Nat.reduceMul, Nat.reduceBEq, reduceIte, c2, gi11, i11, gi19, i19, gi28, i28, gi37, i37, Try.results10]
                  · try dsimp only at h hr32
                    obtain ⟨rfl, hr32⟩ := hr32
                    cases h
                    try simp -implicitDefEqProofs only [go_sem, Nat.reduceEqDiff, Nat.reduceAdd, Nat.reduceLT, Nat.reduceLeDiff, Nat.reduceMul, Nat.reduceBEq, reduceIte]
                    exact hr32 rfl
              · try dsimp only at h hr22
                obtain ⟨rfl, hr22⟩ := hr22
                cases h
                try simp -implicitDefEqProofs only [go_sem, Nat.reduceEqDiff, Nat.reduceAdd, Nat.reduceLT, Nat.reduceLeDiff, Nat.reduceMul, Nat.reduceBEq, reduceIte]
                exact hr22 rfl
          · try dsimp only at h hr14
            obtain ⟨rfl, hr14⟩ := hr14
            cases h
            try simp -implicitDefEqProofs only [go_sem, Nat.reduceEqDiff, Nat.reduceAdd, Nat.reduceLT, Nat.reduceLeDiff, Nat.reduceMul, Nat.reduceBEq, reduceIte]
            exact hr14 rfl
      · try dsimp only at h hr5
        obtain ⟨rfl, hr5⟩ := hr5
        cases h
        try simp -implicitDefEqProofs only [go_sem, Nat.reduceEqDiff, Nat.reduceAdd, Nat.reduceLT, Nat.reduceLeDiff, Nat.reduceMul, Nat.reduceBEq, reduceIte]
        exact hr5 rfl
theorem m_auto_New_ev (a0 : TProto) (r0 : (Option TAuto_Auto) × Int) (h : m_auto_New a0 = some r0) (d : Nat) (G : Heap) : Tel Try.prog TB d 12 [.agg ((cTProto a0).map .p)] G (.tup [obP cTAuto_Auto r0.1, .p (.int .i64 r0.2)]) G := by
  unfold m_auto_New at h
  refine Tel.intro mix Try.func12 rfl (Nat.le_of_ble_eq_true rfl) {frzAt := fun t => t == 8 || t == 14} (by kernel_rfl) (by kernel_rfl) ?_
  generalize hQ : callPost _ _ _ _ _ = Q
  obtain ⟨r1, hr1, h⟩ := bs h
  simp -implicitDefEqProofs only [go_sem, Nat.reduceEqDiff, Nat.reduceAdd, Nat.reduceLT, Nat.reduceLeDiff, Nat.reduceMul, Nat.reduceBEq, reduceIte]
  refine call_frz (r' := .tup [.p (.int .i64 r1.1), .p (.int .i64 r1.2)]) (m_auto_Wrong_ev a0 r1 hr1 (d + 1) empty) (by simp -implicitDefEqProofs only [go_sem, Nat.reduceEqDiff, Nat.reduceAdd, Nat.reduceLT, Nat.reduceLeDiff, Nat.reduceMul, Nat.reduceBEq, reduceIte]) rfl (by simp -implicitDefEqProofs only [go_sem, Nat.reduceEqDiff, Nat.reduceAdd, Nat.reduceLT, Nat.reduceLeDiff, Nat.reduceMul, Nat.reduceBEq, reduceIte]) (by simp -implicitDefEqProofs only [go_sem, Nat.reduceEqDiff, Nat.reduceAdd, Nat.reduceLT, Nat.reduceLeDiff, Nat.reduceMul, Nat.reduceBEq, reduceIte]) ?_ rfl rfl
  rcases ib h with ⟨c2, h⟩ | ⟨c2, h⟩
  · cases h
    subst hQ
    simp -implicitDefEqProofs only [go_sem, Nat.reduceEqDiff, Nat.reduceAdd, Nat.reduceLT, Nat.reduceLeDiff, Nat.reduceMul, Nat.reduceBEq, reduceIte, c2, Try.results12]
  · obtain ⟨r3, hr3, h⟩ := bs h
    simp -implicitDefEqProofs only [go_sem, Nat.reduceEqDiff, Nat.reduceAdd, Nat.reduceLT, Nat.reduceLeDiff, Nat.reduceMul, Nat.reduceBEq, reduceIte, c2]
    refine call_frz (r' := .agg [.p (.str r3.f0), .p (.sl (r3.f1.map cTState)), .p (.sl (r3.f2.map cTMove))]) (m_auto_clone_ev a0 r3 hr3 (d + 1) empty) (by simp -implicitDefEqProofs only [go_sem, Nat.reduceEqDiff, Nat.reduceAdd, Nat.reduceLT, Nat.reduceLeDiff, Nat.reduceMul, Nat.reduceBEq, reduceIte, c2]) rfl (by simp -implicitDefEqProofs only [go_sem, Nat.reduceEqDiff, Nat.reduceAdd, Nat.reduceLT, Nat.reduceLeDiff, Nat.reduceMul, Nat.reduceBEq, reduceIte]) (by simp -implicitDefEqProofs only [go_sem, Nat.reduceEqDiff, Nat.reduceAdd, Nat.reduceLT, Nat.reduceLeDiff, Nat.reduceMul, Nat.reduceBEq, reduceIte]) ?_ rfl rfl
    cases h
    subst hQ
    simp -implicitDefEqProofs only [go_sem, Nat.reduceEqDiff, Nat.reduceAdd, Nat.reduceLT, Nat.reduceLeDiff, Nat.reduceMul, Nat.reduceBEq, reduceIte, c2, Try.results12]
theorem m_auto_Auto_Proto_ev (a0 : Option TAuto_Auto) (r0 : TProto) (h : m_auto_Auto_Proto a0 = some r0) (d : Nat) (G : Heap) : Tel Try.prog TB d 14 [.p (encP cTAuto_Auto a0)] G (.agg ((cTProto r0).map .p)) G := by
  unfold m_auto_Auto_Proto at h
  refine Tel.intro mix Try.func14 rfl (Nat.le_of_ble_eq_true rfl) {frzAt := fun t => t == 7} (by kernel_rfl) (by kernel_rfl) ?_
  generalize hQ : callPost _ _ _ _ _ = Q
  obtain ⟨v1, hv1, h⟩ := bs h
  obtain ⟨r2, hr2, h⟩ := bs h
  simp -implicitDefEqProofs only [go_sem, Nat.reduceEqDiff, Nat.reduceAdd, Nat.reduceLT, Nat.reduceLeDiff, Nat.reduceMul, Nat.reduceBEq, reduceIte, hv1]
  refine call_frz (r' := .agg [.p (.str r2.f0), .p (.sl (r2.f1.map cTState)), .p (.sl (r2.f2.map cTMove))]) (m_auto_clone_ev v1.f0 r2 hr2 (d + 1) empty) (by simp -implicitDefEqProofs only [go_sem, Nat.reduceEqDiff, Nat.reduceAdd, Nat.reduceLT, Nat.reduceLeDiff, Nat.reduceMul, Nat.reduceBEq, reduceIte, hv1]) rfl (by simp -implicitDefEqProofs only [go_sem, Nat.reduceEqDiff, Nat.reduceAdd, Nat.reduceLT, Nat.reduceLeDiff, Nat.reduceMul, Nat.reduceBEq, reduceIte]) (by simp -implicitDefEqProofs only [go_sem, Nat.reduceEqDiff, Nat.reduceAdd, Nat.reduceLT, Nat.reduceLeDiff, Nat.reduceMul, Nat.reduceBEq, reduceIte]) ?_ rfl rfl
  cases h
  subst hQ
  simp -implicitDefEqProofs only [go_sem, Nat.reduceEqDiff, Nat.reduceAdd, Nat.reduceLT, Nat.reduceLeDiff, Nat.reduceMul, Nat.reduceBEq, reduceIte, hv1, Try.results14]
theorem m_law09_awake_ev  (r0 : Bool) (h : m_law09_awake  = some r0) (d : Nat) (G : Heap) : Tel Try.prog TB d 8 [] G (.p (.bool r0)) G := by
  unfold m_law09_awake at h
  refine Tel.intro mix Try.func8 rfl (Nat.le_of_ble_eq_true rfl) {frzAt := fun t => t == 9 || t == 16 || t == 35} (by kernel_rfl) (by kernel_rfl) ?_
  generalize hQ : callPost _ _ _ _ _ = Q
  obtain ⟨r1, hr1, h⟩ := bs h
  simp -implicitDefEqProofs only [go_sem, Nat.reduceEqDiff, Nat.reduceAdd, Nat.reduceLT, Nat.reduceLeDiff, Nat.reduceMul, Nat.reduceBEq, reduceIte]
  refine call_frz (r' := .tup [.p (.int .i64 r1.1), .p (.int .i64 r1.2)]) (m_auto_Wrong_ev (⟨ByteArray.empty, [(⟨(⟨#[65]⟩ : ByteArray), false⟩ : TState)], []⟩ : TProto) r1 hr1 (d + 1) empty) (by simp -implicitDefEqProofs only [go_sem, Nat.reduceEqDiff, Nat.reduceAdd, Nat.reduceLT, Nat.reduceLeDiff, Nat.reduceMul, Nat.reduceBEq, reduceIte]) rfl (by simp -implicitDefEqProofs only [go_sem, Nat.reduceEqDiff, Nat.reduceAdd, Nat.reduceLT, Nat.reduceLeDiff, Nat.reduceMul, Nat.reduceBEq, reduceIte]) (by simp -implicitDefEqProofs only [go_sem, Nat.reduceEqDiff, Nat.reduceAdd, Nat.reduceLT, Nat.reduceLeDiff, Nat.reduceMul, Nat.reduceBEq, reduceIte]) ?_ rfl rfl
  obtain ⟨r2, hr2, h⟩ := bs h
  simp -implicitDefEqProofs only [go_sem, Nat.reduceEqDiff, Nat.reduceAdd, Nat.reduceLT, Nat.reduceLeDiff, Nat.reduceMul, Nat.reduceBEq, reduceIte]
  refine call_frz (r' := .tup [.p (encP cTAuto_Auto r2.1), .p (.int .i64 r2.2)]) (m_auto_New_ev (⟨ByteArray.empty, [(⟨(⟨#[65]⟩ : ByteArray), true⟩ : TState)], []⟩ : TProto) r2 hr2 (d + 1) empty) (by simp -implicitDefEqProofs only [go_sem, Nat.reduceEqDiff, Nat.reduceAdd, Nat.reduceLT, Nat.reduceLeDiff, Nat.reduceMul, Nat.reduceBEq, reduceIte]) rfl (by simp -implicitDefEqProofs only [go_sem, Nat.reduceEqDiff, Nat.reduceAdd, Nat.reduceLT, Nat.reduceLeDiff, Nat.reduceMul, Nat.reduceBEq, reduceIte]) (by simp -implicitDefEqProofs only [go_sem, Nat.reduceEqDiff, Nat.reduceAdd, Nat.reduceLT, Nat.reduceLeDiff, Nat.reduceMul, Nat.reduceBEq, reduceIte]) ?_ rfl rfl
  rcases ib h with ⟨c3, h⟩ | ⟨c3, h⟩
  · rcases ib h with ⟨c4, h⟩ | ⟨c4, h⟩
    · rcases ib h with ⟨c5, h⟩ | ⟨c5, h⟩
      · rcases ib h with ⟨c6, h⟩ | ⟨c6, h⟩
        · obtain ⟨r7, hr7, h⟩ := bs h
          simp -implicitDefEqProofs only [go_sem, Nat.reduceEqDiff, Nat.reduceAdd, Nat.reduceLT, Nat.reduceLeDiff, Nat.reduceMul, Nat.reduceBEq, reduceIte, c3, c4, c5, c6]
          refine call_frz (r' := .p (.int .u32 r7)) (m_auto_Auto_Finals_ev r2.1 r7 hr7 (d + 1) empty) (by simp -implicitDefEqProofs only [go_sem, Nat.reduceEqDiff, Nat.reduceAdd, Nat.reduceLT, Nat.reduceLeDiff, Nat.reduceMul, Nat.reduceBEq, reduceIte, c3, c4, c5, c6]) rfl (by simp -implicitDefEqProofs only [go_sem, Nat.reduceEqDiff, Nat.reduceAdd, Nat.reduceLT, Nat.reduceLeDiff, Nat.reduceMul, Nat.reduceBEq, reduceIte]) (by simp -implicitDefEqProofs only [go_sem, Nat.reduceEqDiff, Nat.reduceAdd, Nat.reduceLT, Nat.reduceLeDiff, Nat.reduceMul, Nat.reduceBEq, reduceIte]) ?_ rfl rfl
          cases h
          subst hQ
          simp -implicitDefEqProofs only [go_sem, Nat.reduceEqDiff, Nat.reduceAdd, Nat.reduceLT, Nat.reduceLeDiff, Nat.reduceMul, Nat.reduceBEq, reduceIte, c3, c4, c5, c6, Try.results8]
        · cases h
          subst hQ
          simp -implicitDefEqProofs only [go_sem, Nat.reduceEqDiff, Nat.reduceAdd, Nat.reduceLT, Nat.reduceLeDiff, Nat.reduceMul, Nat.reduceBEq, reduceIte, c3, c4, c5, c6, Try.results8]
      · cases h
        subst hQ
        simp -implicitDefEqProofs only [go_sem, Nat.reduceEqDiff, Nat.reduceAdd, Nat.reduceLT, Nat.reduceLeDiff, Nat.reduceMul, Nat.reduceBEq, reduceIte, c3, c4, c5, Try.results8]
    · cases h
      subst hQ
      simp -implicitDefEqProofs only [go_sem, Nat.reduceEqDiff, Nat.reduceAdd, Nat.reduceLT, Nat.reduceLeDiff, Nat.reduceMul, Nat.reduceBEq, reduceIte, c3, c4, Try.results8]
  · cases h
    subst hQ
    simp -implicitDefEqProofs only [go_sem, Nat.reduceEqDiff, Nat.reduceAdd, Nat.reduceLT, Nat.reduceLeDiff, Nat.reduceMul, Nat.reduceBEq, reduceIte, c3, Try.results8]
end Go.E
