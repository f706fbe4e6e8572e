import Derived.Test.YthgohaidfaldnaaMD
set_option linter.all false
set_option maxRecDepth 100000
namespace Go.E
open Go Go.Proofs Go.Eng
variable {TB : Nat → Option Obj}
theorem m_auto_finals_ev (a0 : TProto) (r0 : Int) (h : m_auto_finals a0 = some r0) (d : Nat) (G : Heap) : Tel Try.prog TB d 39 [.agg ((cTProto a0).map .p)] G (.p (.int .u32 r0)) G := by
  unfold m_auto_finals at h
  refine Tel.intro mix Try.func39 rfl (Nat.le_of_ble_eq_true rfl) {clean := fun r => if r = 3 then [5] else []} (by kernel_rfl) (by kernel_rfl) ?_
  generalize hQ : callPost _ _ _ _ _ = Q
  simp -implicitDefEqProofs only [go_sem, Nat.reduceEqDiff, Nat.reduceAdd, Nat.reduceLT, Nat.reduceLeDiff, Nat.reduceMul, Nat.reduceBEq, reduceIte]
  obtain ⟨z5, hL5, h⟩ := bs h
  obtain ⟨I5, hI5⟩ : ∃ I : (Int × Int) → St → Prop, I = fun a s => match a with | (v6, v7) => s.G = fillKey (cut d G) (d + 1) 1 [.box [.p (.str a0.f0), .p (.sl (a0.f1.map cTState)), .p (.sl (a0.f2.map cTMove))]] ∧ s.F 3 = .p (.int .u32 v6) ∧ s.F 7 = .p (.sl (a0.f1.map cTState)) ∧ s.F 8 = .p (.int .i64 (a0.f1.length : Int)) ∧ s.F 9 = .p (.int .i64 v7) ∧ True := ⟨_, rfl⟩
  obtain ⟨R5, hR5⟩ : ∃ R : (Int) → GE → St → Prop, R = fun v8 e s => e = .exit 0 ∧ s.G = fillKey (cut d G) (d + 1) 1 [.box [.p (.str a0.f0), .p (.sl (a0.f1.map cTState)), .p (.sl (a0.f2.map cTMove))]] ∧ s.F 3 = .p (.int .u32 v8) ∧ True := ⟨_, rfl⟩
  refine lp (ts := [5]) rfl hL5 I5 R5 ?_ ?_ ?_
  · rw [hI5]
    simp -implicitDefEqProofs only [go_sem, Nat.reduceEqDiff, Nat.reduceAdd, Nat.reduceLT, Nat.reduceLeDiff, Nat.reduceMul, Nat.reduceBEq, reduceIte]
  · clear h hL5
    rintro ⟨v6, v7⟩ y s h i
    rw [hI5] at i
    obtain ⟨gi5, i5⟩ := i
    replace h : m_auto_finals_L0 a0 (v6, v7) = some y := h
    unfold m_auto_finals_L0 at h
    rcases ib h with ⟨c9, h⟩ | ⟨c9, h⟩
    · obtain ⟨v10, hv10, h⟩ := bs h
      replace hv10 := gis hv10
      simp -implicitDefEqProofs only [go_sem, Nat.reduceEqDiff, Nat.reduceAdd, Nat.reduceLT, Nat.reduceLeDiff, Nat.reduceMul, Nat.reduceBEq, reduceIte, gi5, i5, c9, hv10]
      obtain ⟨v11, hz, h⟩ := bs h
      obtain ⟨R12, hR12⟩ : ∃ R : St → Prop, R = fun s => s.G = fillKey (fillKey (cut d G) (d + 1) 1 [.box [.p (.str a0.f0), .p (.sl (a0.f1.map cTState)), .p (.sl (a0.f2.map cTMove))]]) (d + 1) 5 [.box [.p (.str v10.f0), .p (.bool v10.f1)]] ∧ s.F 3 = .p (.int .u32 v11) ∧ s.F 7 = .p (.sl (a0.f1.map cTState)) ∧ s.F 8 = .p (.int .i64 (a0.f1.length : Int)) ∧ s.F 9 = .p (.int .i64 v7) ∧ True := ⟨_, rfl⟩
      refine cutG R12 ?_ ?_
      · replace h := hz
        rcases ib h with ⟨c13, h⟩ | ⟨c13, h⟩
        · obtain ⟨_, c14, h⟩ := bs h
          replace c14 := rqs c14
          cases h
          simp -implicitDefEqProofs only [go_sem, Nat.reduceEqDiff, Nat.reduceAdd, Nat.reduceLT, Nat.reduceLeDiff, Nat.reduceMul, Nat.reduceBEq, reduceIte, gi5, i5, c9, hv10, c13, c14]
          rw [hR12]
          simp -implicitDefEqProofs only [go_sem, Nat.reduceEqDiff, Nat.reduceAdd, Nat.reduceLT, Nat.reduceLeDiff, Nat.reduceMul, Nat.reduceBEq, reduceIte, gi5, i5, c9, hv10, c13, c14]
        · cases h
          simp -implicitDefEqProofs only [go_sem, Nat.reduceEqDiff, Nat.reduceAdd, Nat.reduceLT, Nat.reduceLeDiff, Nat.reduceMul, Nat.reduceBEq, reduceIte, gi5, i5, c9, hv10, c13]
          rw [hR12]
          simp -implicitDefEqProofs only [go_sem, Nat.reduceEqDiff, Nat.reduceAdd, Nat.reduceLT, Nat.reduceLeDiff, Nat.reduceMul, Nat.reduceBEq, reduceIte, gi5, i5, c9, hv10, c13]
      · replace h := h; clear hz
        rintro s i
        rw [hR12] at i
        obtain ⟨gi15, i15⟩ := i
        clear hR12
        try dsimp only at h
        cases h
        simp -implicitDefEqProofs only [go_sem, Nat.reduceEqDiff, Nat.reduceAdd, Nat.reduceLT, Nat.reduceLeDiff, Nat.reduceMul, Nat.reduceBEq, reduceIte, gi5, i5, c9, hv10, gi15, i15]
        rw [hI5]
        simp -implicitDefEqProofs only [go_sem, Nat.reduceEqDiff, Nat.reduceAdd, Nat.reduceLT, Nat.reduceLeDiff, Nat.reduceMul, Nat.reduceBEq, reduceIte, gi5, i5, c9, hv10, gi15, i15]
    · cases h
      simp -implicitDefEqProofs only [go_sem, Nat.reduceEqDiff, Nat.reduceAdd, Nat.reduceLT, Nat.reduceLeDiff, Nat.reduceMul, Nat.reduceBEq, reduceIte, gi5, i5, c9]
      rw [hR5]
      refine ⟨rfl, ?_⟩
      simp -implicitDefEqProofs only [go_sem, Nat.reduceEqDiff, Nat.reduceAdd, Nat.reduceLT, Nat.reduceLeDiff, Nat.reduceMul, Nat.reduceBEq, reduceIte, gi5, i5, c9]
  · clear hL5 hI5
    intro e s hr5
    rw [hR5] at hr5
    clear hR5
    revert h hr5
    generalize z5 = v8
    intro h hr5
    try dsimp only at h hr5
    obtain ⟨rfl, gi16, i16⟩ := hr5
    cases h
    subst hQ
    simp -implicitDefEqProofs only [go_sem, Nat.reduceEqDiff, Nat.reduceAdd, Nat.reduceLT, Nat.reduceLeDiff, Nat.reduceMul, Nat.reduceBEq, reduceIte, gi16, i16, Try.results39]
theorem m_auto_states_1_ev (a0 : Int) (u0 : TProto) (r0 : ByteArray) (h : m_auto_states_1 a0 u0 = some r0) (d : Nat) (G : Heap) : Tel Try.prog TB d 51 [.p (.int .i64 a0), .ep (cTProto u0) 0] G (.p (.str r0)) G := by
  unfold m_auto_states_1 at h
  refine Tel.intro mix Try.func51 rfl (Nat.le_of_ble_eq_true rfl) {} (by kernel_rfl) (by kernel_rfl) ?_
  generalize hQ : callPost _ _ _ _ _ = Q
  obtain ⟨v1, hv1, h⟩ := bs h
  replace hv1 := gis hv1
  cases h
  subst hQ
  simp -implicitDefEqProofs only [go_sem, Nat.reduceEqDiff, Nat.reduceAdd, Nat.reduceLT, Nat.reduceLeDiff, Nat.reduceMul, Nat.reduceBEq, reduceIte, hv1, Try.results51]
theorem m_auto_twice_ev (a0 : Int) (a1 : (Int → Option ByteArray)) (n1 : FuncId) (q1 : List GV) (hc1 : closeds q1) (hf1 : ∀ x0 r, a1 x0 = some r → ∀ d, Tel Try.prog TB d n1 ([.p (.int .i64 x0)] ++ q1) empty (.p (.str r)) empty) (r0 : Int) (h : m_auto_twice a0 a1 = some r0) (d : Nat) (G : Heap) : Tel Try.prog TB d 50 [.p (.int .i64 a0), .fn n1 q1] G (.p (.int .i64 r0)) G := by
  unfold m_auto_twice at h
  refine Tel.intro mix Try.func50 rfl (Nat.le_of_ble_eq_true rfl) {frzAt := fun t => t == 17 || t == 20} (by kernel_rfl) (by kernel_rfl) ?_
  generalize hQ : callPost _ _ _ _ _ = Q
  simp -implicitDefEqProofs only [go_sem, Nat.reduceEqDiff, Nat.reduceAdd, Nat.reduceLT, Nat.reduceLeDiff, Nat.reduceMul, Nat.reduceBEq, reduceIte]
  obtain ⟨z3, hL3, h⟩ := bs h
  obtain ⟨I3, hI3⟩ : ∃ I : Int → St → Prop, I = fun v4 s => s.G = cut d G ∧ s.F 1 = .fn n1 q1 ∧ s.F 7 = .p (.int .i64 a0) ∧ s.F 8 = .p (.int .i64 v4) ∧ True := ⟨_, rfl⟩
  obtain ⟨R3, hR3⟩ : ∃ R : ((Unit) ⊕ (Int)) → GE → St → Prop, R = fun x e s => match x with | .inl _ => e = .exit 0 ∧ s.G = cut d G ∧ True | .inr r => e = .ret ∧ (r = r0 → Q .ret s) := ⟨_, rfl⟩
  refine lp (ts := []) rfl hL3 I3 R3 ?_ ?_ ?_
  · rw [hI3]
    simp -implicitDefEqProofs only [go_sem, Nat.reduceEqDiff, Nat.reduceAdd, Nat.reduceLT, Nat.reduceLeDiff, Nat.reduceMul, Nat.reduceBEq, reduceIte]
  · clear h hL3
    rintro v4 y s h i
    rw [hI3] at i
    obtain ⟨gi3, i3⟩ := i
    replace h : m_auto_twice_L0 a0 a1 (v4) = some y := h
    unfold m_auto_twice_L0 at h
    rcases ib h with ⟨c5, h⟩ | ⟨c5, h⟩
    · simp -implicitDefEqProofs only [go_sem, Nat.reduceEqDiff, Nat.reduceAdd, Nat.reduceLT, Nat.reduceLeDiff, Nat.reduceMul, Nat.reduceBEq, reduceIte, gi3, i3, c5]
      obtain ⟨z8, hL8, h⟩ := bs h
      obtain ⟨I8, hI8⟩ : ∃ I : Int → St → Prop, I = fun v9 s => s.G = cut d G ∧ s.F 1 = .fn n1 q1 ∧ s.F 5 = .p (.int .i64 v4) ∧ s.F 7 = .p (.int .i64 a0) ∧ s.F 8 = .p (.int .i64 v4) ∧ s.F 11 = .p (.int .i64 v4) ∧ s.F 12 = .p (.int .i64 v9) ∧ True := ⟨_, rfl⟩
      obtain ⟨R8, hR8⟩ : ∃ R : ((Unit) ⊕ (Int)) → GE → St → Prop, R = fun x e s => match x with | .inl _ => e = .exit 2 ∧ s.G = cut d G ∧ s.F 1 = .fn n1 q1 ∧ s.F 7 = .p (.int .i64 a0) ∧ s.F 8 = .p (.int .i64 v4) ∧ True | .inr r => e = .ret ∧ (r = r0 → Q .ret s) := ⟨_, rfl⟩
      refine lp (ts := []) rfl hL8 I8 R8 ?_ ?_ ?_
      · rw [hI8]
        simp -implicitDefEqProofs only [go_sem, Nat.reduceEqDiff, Nat.reduceAdd, Nat.reduceLT, Nat.reduceLeDiff, Nat.reduceMul, Nat.reduceBEq, reduceIte, gi3, i3, c5]
      · clear h hL8
        rintro v9 y s h i
        rw [hI8] at i
        obtain ⟨gi8, i8⟩ := i
        replace h : m_auto_twice_L1 v4 a1 (v9) = some y := h
        unfold m_auto_twice_L1 at h
        rcases ib h with ⟨c10, h⟩ | ⟨c10, h⟩
        · obtain ⟨r11, hr11, h⟩ := bs h
          simp -implicitDefEqProofs only [go_sem, Nat.reduceEqDiff, Nat.reduceAdd, Nat.reduceLT, Nat.reduceLeDiff, Nat.reduceMul, Nat.reduceBEq, reduceIte, gi3, i3, c5, gi8, i8, c10]
          refine call_frz (r' := .p (.str r11)) (hf1 v9 r11 hr11 (d + 1)) (by simp -implicitDefEqProofs only [go_sem, Nat.reduceEqDiff, Nat.reduceAdd, Nat.reduceLT, Nat.reduceLeDiff, Nat.reduceMul, Nat.reduceBEq, reduceIte, gi3, i3, c5, gi8, i8, c10]) rfl (by simp -implicitDefEqProofs only [go_sem, Nat.reduceEqDiff, Nat.reduceAdd, Nat.reduceLT, Nat.reduceLeDiff, Nat.reduceMul, Nat.reduceBEq, reduceIte, hc1]) (by simp -implicitDefEqProofs only [go_sem, Nat.reduceEqDiff, Nat.reduceAdd, Nat.reduceLT, Nat.reduceLeDiff, Nat.reduceMul, Nat.reduceBEq, reduceIte]) ?_ rfl rfl
          obtain ⟨r12, hr12, h⟩ := bs h
          simp -implicitDefEqProofs only [go_sem, Nat.reduceEqDiff, Nat.reduceAdd, Nat.reduceLT, Nat.reduceLeDiff, Nat.reduceMul, Nat.reduceBEq, reduceIte, gi3, i3, c5, gi8, i8, c10]
          refine call_frz (r' := .p (.str r12)) (hf1 v4 r12 hr12 (d + 1)) (by simp -implicitDefEqProofs only [go_sem, Nat.reduceEqDiff, Nat.reduceAdd, Nat.reduceLT, Nat.reduceLeDiff, Nat.reduceMul, Nat.reduceBEq, reduceIte, gi3, i3, c5, gi8, i8, c10]) rfl (by simp -implicitDefEqProofs only [go_sem, Nat.reduceEqDiff, Nat.reduceAdd, Nat.reduceLT, Nat.reduceLeDiff, Nat.reduceMul, Nat.reduceBEq, reduceIte, hc1]) (by simp -implicitDefEqProofs only [go_sem, Nat.reduceEqDiff, Nat.reduceAdd, Nat.reduceLT, Nat.reduceLeDiff, Nat.reduceMul, Nat.reduceBEq, reduceIte]) ?_ rfl rfl
          rcases ib h with ⟨c13, h⟩ | ⟨c13, h⟩
          · cases h
            simp -implicitDefEqProofs only [go_sem, Nat.reduceEqDiff, Nat.reduceAdd, Nat.reduceLT, Nat.reduceLeDiff, Nat.reduceMul, Nat.reduceBEq, reduceIte, gi3, i3, c5, gi8, i8, c10, c13]
            rw [hR8]
            refine ⟨rfl, ?_⟩
            intro hr
            subst hr
            subst hQ
            simp -implicitDefEqProofs only [go_sem, Nat.reduceEqDiff, Nat.reduceAdd, Nat.reduceLT, Nat.reduceLeDiff, Nat.reduceMul, Nat.reduceBEq, reduceIte, gi3, i3, c5, gi8, i8, c10, c13, Try.results50]
          · cases h
            simp -implicitDefEqProofs only [go_sem, Nat.reduceEqDiff, Nat.reduceAdd, Nat.reduceLT, Nat.reduceLeDiff, Nat.reduceMul, Nat.reduceBEq, reduceIte, gi3, i3, c5, gi8, i8, c10, c13]
            rw [hI8]
            simp -implicitDefEqProofs only [go_sem, Nat.reduceEqDiff, Nat.reduceAdd, Nat.reduceLT, Nat.reduceLeDiff, Nat.reduceMul, Nat.reduceBEq, reduceIte, gi3, i3, c5, gi8, i8, c10, c13]
        · cases h
          simp -implicitDefEqProofs only [go_sem, Nat.reduceEqDiff, Nat.reduceAdd, Nat.reduceLT, Nat.reduceLeDiff, Nat.reduceMul, Nat.reduceBEq, reduceIte, gi3, i3, c5, gi8, i8, c10]
          rw [hR8]
          refine ⟨rfl, ?_⟩
          simp -implicitDefEqProofs only [go_sem, Nat.reduceEqDiff, Nat.reduceAdd, Nat.reduceLT, Nat.reduceLeDiff, Nat.reduceMul, Nat.reduceBEq, reduceIte, gi3, i3, c5, gi8, i8, c10]
      · clear hL8 hI8
        intro e s hr8
        rw [hR8] at hr8
        clear hR8
        rcases z8 with _ | r
        · try dsimp only at h hr8
          obtain ⟨rfl, gi14, i14⟩ := hr8
          cases h
          simp -implicitDefEqProofs only [go_sem, Nat.reduceEqDiff, Nat.reduceAdd, Nat.reduceLT, Nat.reduceLeDiff, Nat.reduceMul, Nat.reduceBEq, reduceIte, gi3, i3, c5, gi14, i14]
          rw [hI3]
          simp -implicitDefEqProofs only [go_sem, Nat.reduceEqDiff, Nat.reduceAdd, Nat.reduceLT, Nat.reduceLeDiff, Nat.reduceMul, Nat.reduceBEq, reduceIte, gi3, i3, c5, gi14, i14]
        · try dsimp only at h hr8
          obtain ⟨rfl, hr8⟩ := hr8
          cases h
          try simp -implicitDefEqProofs only [go_sem, Nat.reduceEqDiff, Nat.reduceAdd, Nat.reduceLT, Nat.reduceLeDiff, Nat.reduceMul, Nat.reduceBEq, reduceIte]
          rw [hR3]
          exact ⟨rfl, hr8⟩
    · cases h
      simp -implicitDefEqProofs only [go_sem, Nat.reduceEqDiff, Nat.reduceAdd, Nat.reduceLT, Nat.reduceLeDiff, Nat.reduceMul, Nat.reduceBEq, reduceIte, gi3, i3, c5]
      rw [hR3]
      refine ⟨rfl, ?_⟩
      simp -implicitDefEqProofs only [go_sem, Nat.reduceEqDiff, Nat.reduceAdd, Nat.reduceLT, Nat.reduceLeDiff, Nat.reduceMul, Nat.reduceBEq, reduceIte, gi3, i3, c5]
  · clear hL3 hI3
    intro e s hr3
    rw [hR3] at hr3
    clear hR3
    rcases z3 with _ | r
    · try dsimp only at h hr3
      obtain ⟨rfl, gi15, i15⟩ := hr3
      cases h
      subst hQ
      simp -implicitDefEqProofs only [go_sem, Nat.reduceEqDiff, Nat.reduceAdd, Nat.reduceLT, Nat.reduceLeDiff, Nat.reduceMul, Nat.reduceBEq, reduceIte, gi15, i15, Try.results50]
    · try dsimp only at h hr3
      obtain ⟨rfl, hr3⟩ := hr3
      cases h
      try simp -implicitDefEqProofs only [go_sem, Nat.reduceEqDiff, Nat.reduceAdd, Nat.reduceLT, Nat.reduceLeDiff, Nat.reduceMul, Nat.reduceBEq, reduceIte]
      exact hr3 rfl
theorem m_auto_states_ev (a0 : TProto) (r0 : Int) (h : m_auto_states a0 = some r0) (d : Nat) (G : Heap) : Tel Try.prog TB d 30 [.agg ((cTProto a0).map .p)] G (.p (.int .i64 r0)) G := by
  unfold m_auto_states at h
  refine Tel.intro mix Try.func30 rfl (Nat.le_of_ble_eq_true rfl) {borAt := fun t => t == 17} (by kernel_rfl) (by kernel_rfl) ?_
  generalize hQ : callPost _ _ _ _ _ = Q
  rcases ib h with ⟨c1, h⟩ | ⟨c1, h⟩
  · cases h
    subst hQ
    simp -implicitDefEqProofs only [go_sem, Nat.reduceEqDiff, Nat.reduceAdd, Nat.reduceLT, Nat.reduceLeDiff, Nat.reduceMul, Nat.reduceBEq, reduceIte, c1, Try.results30]
  · rcases ib h with ⟨c2, h⟩ | ⟨c2, h⟩
    · cases h
      subst hQ
      simp -implicitDefEqProofs only [go_sem, Nat.reduceEqDiff, Nat.reduceAdd, Nat.reduceLT, Nat.reduceLeDiff, Nat.reduceMul, Nat.reduceBEq, reduceIte, c1, c2, Try.results30]
    · obtain ⟨r3, hr3, h⟩ := bs h
      simp -implicitDefEqProofs only [go_sem, Nat.reduceEqDiff, Nat.reduceAdd, Nat.reduceLT, Nat.reduceLeDiff, Nat.reduceMul, Nat.reduceBEq, reduceIte, c1, c2]
      refine call_look (m_auto_twice_ev (a0.f1.length : Int) (fun x0 => m_auto_states_1 x0 a0) 51 [.ep (cTProto a0) 0] (by simp -implicitDefEqProofs only [go_sem, Nat.reduceEqDiff, Nat.reduceAdd, Nat.reduceLT, Nat.reduceLeDiff, Nat.reduceMul, Nat.reduceBEq, reduceIte]) (fun x0 r h d => m_auto_states_1_ev x0 a0 r h d empty) r3 hr3 (d + 1) empty) (by simp -implicitDefEqProofs only [go_sem, Nat.reduceEqDiff, Nat.reduceAdd, Nat.reduceLT, Nat.reduceLeDiff, Nat.reduceMul, Nat.reduceBEq, reduceIte, c1, c2]) (by simp -implicitDefEqProofs only [go_sem, Nat.reduceEqDiff, Nat.reduceAdd, Nat.reduceLT, Nat.reduceLeDiff, Nat.reduceMul, Nat.reduceBEq, reduceIte]) (by simp -implicitDefEqProofs only [go_sem, Nat.reduceEqDiff, Nat.reduceAdd, Nat.reduceLT, Nat.reduceLeDiff, Nat.reduceMul, Nat.reduceBEq, reduceIte]) ?_ rfl
      cases h
      subst hQ
      simp -implicitDefEqProofs only [go_sem, Nat.reduceEqDiff, Nat.reduceAdd, Nat.reduceLT, Nat.reduceLeDiff, Nat.reduceMul, Nat.reduceBEq, reduceIte, c1, c2, Try.results30]
theorem m_auto_ends_ev (a0 : TProto) (r0 : Int) (h : m_auto_ends a0 = some r0) (d : Nat) (G : Heap) : Tel Try.prog TB d 33 [.agg ((cTProto a0).map .p)] G (.p (.int .u32 r0)) G := by
  unfold m_auto_ends at h
  refine Tel.intro mix Try.func33 rfl (Nat.le_of_ble_eq_true rfl) {frzAt := fun t => t == 10, clean := fun r => if r = 3 then [6, 8] else if r = 6 then [6, 8] else if r = 9 then [8] else []} (by kernel_rfl) (by kernel_rfl) ?_
  generalize hQ : callPost _ _ _ _ _ = Q
  obtain ⟨r1, hr1, h⟩ := bs h
  simp -implicitDefEqProofs only [go_sem, Nat.reduceEqDiff, Nat.reduceAdd, Nat.reduceLT, Nat.reduceLeDiff, Nat.reduceMul, Nat.reduceBEq, reduceIte]
  refine call_frz (r' := .p (.int .u32 r1)) (m_auto_finals_ev a0 r1 hr1 (d + 1) empty) (by simp -implicitDefEqProofs only [go_sem, Nat.reduceEqDiff, Nat.reduceAdd, Nat.reduceLT, Nat.reduceLeDiff, Nat.reduceMul, Nat.reduceBEq, reduceIte]) rfl (by simp -implicitDefEqProofs only [go_sem, Nat.reduceEqDiff, Nat.reduceAdd, Nat.reduceLT, Nat.reduceLeDiff, Nat.reduceMul, Nat.reduceBEq, reduceIte]) (by simp -implicitDefEqProofs only [go_sem, Nat.reduceEqDiff, Nat.reduceAdd, Nat.reduceLT, Nat.reduceLeDiff, Nat.reduceMul, Nat.reduceBEq, reduceIte]) ?_ rfl rfl
  simp -implicitDefEqProofs only [go_sem, Nat.reduceEqDiff, Nat.reduceAdd, Nat.reduceLT, Nat.reduceLeDiff, Nat.reduceMul, Nat.reduceBEq, reduceIte]
  obtain ⟨z6, hL6, h⟩ := bs h
  obtain ⟨I6, hI6⟩ : ∃ I : (Int × Bool) → St → Prop, I = fun a s => match a with | (v7, v8) => s.G = fillKey (cut d G) (d + 1) 1 [.box [.p (.str a0.f0), .p (.sl (a0.f1.map cTState)), .p (.sl (a0.f2.map cTMove))]] ∧ s.F 1 = .bp (d + 1, 1, 0) 0 ∧ s.F 3 = .p (.int .u32 v7) ∧ s.F 4 = .p (.bool v8) ∧ True := ⟨_, rfl⟩
  obtain ⟨R6, hR6⟩ : ∃ R : (Int) → GE → St → Prop, R = fun v9 e s => e = .exit 0 ∧ s.G = fillKey (cut d G) (d + 1) 1 [.box [.p (.str a0.f0), .p (.sl (a0.f1.map cTState)), .p (.sl (a0.f2.map cTMove))]] ∧ s.F 3 = .p (.int .u32 v9) ∧ True := ⟨_, rfl⟩
  refine lp (ts := [6, 8]) rfl hL6 I6 R6 ?_ ?_ ?_
  · rw [hI6]
    simp -implicitDefEqProofs only [go_sem, Nat.reduceEqDiff, Nat.reduceAdd, Nat.reduceLT, Nat.reduceLeDiff, Nat.reduceMul, Nat.reduceBEq, reduceIte]
  · clear h hL6
    rintro ⟨v7, v8⟩ y s h i
    rw [hI6] at i
    obtain ⟨gi6, i6⟩ := i
    replace h : m_auto_ends_L0 a0 (v7, v8) = some y := h
    unfold m_auto_ends_L0 at h
    rcases ib h with ⟨c10, h⟩ | ⟨c10, h⟩
    · simp -implicitDefEqProofs only [go_sem, Nat.reduceEqDiff, Nat.reduceAdd, Nat.reduceLT, Nat.reduceLeDiff, Nat.reduceMul, Nat.reduceBEq, reduceIte, gi6, i6, c10]
      obtain ⟨z17, hL17, h⟩ := bs h
      obtain ⟨I17, hI17⟩ : ∃ I : (Int × Bool × Int) → St → Prop, I = fun a s => match a with | (v18, v19, v20) => s.G = fillKey (cut d G) (d + 1) 1 [.box [.p (.str a0.f0), .p (.sl (a0.f1.map cTState)), .p (.sl (a0.f2.map cTMove))]] ∧ s.F 1 = .bp (d + 1, 1, 0) 0 ∧ s.F 3 = .p (.int .u32 v18) ∧ s.F 4 = .p (.bool v19) ∧ s.F 13 = .p (.sl (a0.f2.map cTMove)) ∧ s.F 14 = .p (.int .i64 (a0.f2.length : Int)) ∧ s.F 15 = .p (.int .i64 v20) ∧ True := ⟨_, rfl⟩
      obtain ⟨R17, hR17⟩ : ∃ R : (Int × Bool) → GE → St → Prop, R = fun x e s => match x with | (v21, v22) => e = .exit 2 ∧ s.G = fillKey (cut d G) (d + 1) 1 [.box [.p (.str a0.f0), .p (.sl (a0.f1.map cTState)), .p (.sl (a0.f2.map cTMove))]] ∧ s.F 1 = .bp (d + 1, 1, 0) 0 ∧ s.F 3 = .p (.int .u32 v21) ∧ s.F 4 = .p (.bool v22) ∧ True := ⟨_, rfl⟩
      refine lp (ts := [6, 8]) rfl hL17 I17 R17 ?_ ?_ ?_
      · rw [hI17]
        simp -implicitDefEqProofs only [go_sem, Nat.reduceEqDiff, Nat.reduceAdd, Nat.reduceLT, Nat.reduceLeDiff, Nat.reduceMul, Nat.reduceBEq, reduceIte, gi6, i6, c10]
      · clear h hL17
        rintro ⟨v18, v19, v20⟩ y s h i
        rw [hI17] at i
        obtain ⟨gi17, i17⟩ := i
        replace h : m_auto_ends_L1 a0 (v18, v19, v20) = some y := h
        unfold m_auto_ends_L1 at h
        rcases ib h with ⟨c23, h⟩ | ⟨c23, h⟩
        · obtain ⟨v24, hv24, h⟩ := bs h
          replace hv24 := gis hv24
          simp -implicitDefEqProofs only [go_sem, Nat.reduceEqDiff, Nat.reduceAdd, Nat.reduceLT, Nat.reduceLeDiff, Nat.reduceMul, Nat.reduceBEq, reduceIte, gi6, i6, c10, gi17, i17, c23, hv24]
          obtain ⟨z31, hL31, h⟩ := bs h
          obtain ⟨I31, hI31⟩ : ∃ I : (Int × Bool × Int) → St → Prop, I = fun a s => match a with | (v32, v33, v34) => s.G = fillKey (fillKey (cut d G) (d + 1) 1 [.box [.p (.str a0.f0), .p (.sl (a0.f1.map cTState)), .p (.sl (a0.f2.map cTMove))]]) (d + 1) 6 [.box [.p (.str v24.f0), .p (.int .i64 v24.f1), .p (.sl (v24.f2.map cTOut))]] ∧ s.F 1 = .bp (d + 1, 1, 0) 0 ∧ s.F 3 = .p (.int .u32 v32) ∧ s.F 4 = .p (.bool v33) ∧ s.F 6 = .bp (d + 1, 6, 0) 0 ∧ s.F 13 = .p (.sl (a0.f2.map cTMove)) ∧ s.F 14 = .p (.int .i64 (a0.f2.length : Int)) ∧ s.F 15 = .p (.int .i64 v20) ∧ s.F 20 = .p (.sl (v24.f2.map cTOut)) ∧ s.F 21 = .p (.int .i64 (v24.f2.length : Int)) ∧ s.F 22 = .p (.int .i64 v34) ∧ True := ⟨_, rfl⟩
          obtain ⟨R31, hR31⟩ : ∃ R : (Int × Bool) → GE → St → Prop, R = fun x e s => match x with | (v35, v36) => e = .exit 4 ∧ s.G = fillKey (fillKey (cut d G) (d + 1) 1 [.box [.p (.str a0.f0), .p (.sl (a0.f1.map cTState)), .p (.sl (a0.f2.map cTMove))]]) (d + 1) 6 [.box [.p (.str v24.f0), .p (.int .i64 v24.f1), .p (.sl (v24.f2.map cTOut))]] ∧ s.F 1 = .bp (d + 1, 1, 0) 0 ∧ s.F 3 = .p (.int .u32 v35) ∧ s.F 4 = .p (.bool v36) ∧ s.F 13 = .p (.sl (a0.f2.map cTMove)) ∧ s.F 14 = .p (.int .i64 (a0.f2.length : Int)) ∧ s.F 15 = .p (.int .i64 v20) ∧ True := ⟨_, rfl⟩
          refine lp (ts := [8]) rfl hL31 I31 R31 ?_ ?_ ?_
          · rw [hI31]
            simp -implicitDefEqProofs only [go_sem, Nat.reduceEqDiff, Nat.reduceAdd, Nat.reduceLT, Nat.reduceLeDiff, Nat.reduceMul, Nat.reduceBEq, reduceIte, gi6, i6, c10, gi17, i17, c23, hv24]
          · clear h hL31
            rintro ⟨v32, v33, v34⟩ y s h i
            rw [hI31] at i
            obtain ⟨gi31, i31⟩ := i
            replace h : m_auto_ends_L2 v24 (v32, v33, v34) = some y := h
            unfold m_auto_ends_L2 at h
            rcases ib h with ⟨c37, h⟩ | ⟨c37, h⟩
            · obtain ⟨v38, hv38, h⟩ := bs h
              replace hv38 := gis hv38
              obtain ⟨_, c39, h⟩ := bs h
              replace c39 := rqs c39
              simp -implicitDefEqProofs only [go_sem, Nat.reduceEqDiff, Nat.reduceAdd, Nat.reduceLT, Nat.reduceLeDiff, Nat.reduceMul, Nat.reduceBEq, reduceIte, gi6, i6, c10, gi17, i17, c23, hv24, gi31, i31, c37, hv38, c39]
              obtain ⟨v40, hz, h⟩ := bs h
              obtain ⟨R41, hR41⟩ : ∃ R : St → Prop, R = fun s => s.G = fillKey (fillKey (fillKey (cut d G) (d + 1) 1 [.box [.p (.str a0.f0), .p (.sl (a0.f1.map cTState)), .p (.sl (a0.f2.map cTMove))]]) (d + 1) 6 [.box [.p (.str v24.f0), .p (.int .i64 v24.f1), .p (.sl (v24.f2.map cTOut))]]) (d + 1) 8 [.box [.p (.str v38.f0), .p (.int .i64 v38.f1)]] ∧ s.F 1 = .bp (d + 1, 1, 0) 0 ∧ s.F 3 = .p (.int .u32 v32) ∧ s.F 4 = .p (.bool v33) ∧ s.F 6 = .bp (d + 1, 6, 0) 0 ∧ s.F 13 = .p (.sl (a0.f2.map cTMove)) ∧ s.F 14 = .p (.int .i64 (a0.f2.length : Int)) ∧ s.F 15 = .p (.int .i64 v20) ∧ s.F 20 = .p (.sl (v24.f2.map cTOut)) ∧ s.F 21 = .p (.int .i64 (v24.f2.length : Int)) ∧ s.F 22 = .p (.int .i64 v34) ∧ s.F 39 = .p (.bool v40) ∧ True := ⟨_, rfl⟩
              refine cutR R41 ?_ ?_
              · replace h := hz
                rcases ib h with ⟨c42, h⟩ | ⟨c42, h⟩
                · obtain ⟨_, c43, h⟩ := bs h
                  replace c43 := rqs c43
                  cases h
                  simp -implicitDefEqProofs only [go_sem, Nat.reduceEqDiff, Nat.reduceAdd, Nat.reduceLT, Nat.reduceLeDiff, Nat.reduceMul, Nat.reduceBEq, reduceIte, gi6, i6, c10, gi17, i17, c23, hv24, gi31, i31, c37, hv38, c39, c42, c43]
                  rw [hR41]
                  simp -implicitDefEqProofs only [go_sem, Nat.reduceEqDiff, Nat.reduceAdd, Nat.reduceLT, Nat.reduceLeDiff, Nat.reduceMul, Nat.reduceBEq, reduceIte, gi6, i6, c10, gi17, i17, c23, hv24, gi31, i31, c37, hv38, c39, c42, c43]
                · cases h
                  simp -implicitDefEqProofs only [go_sem, Nat.reduceEqDiff, Nat.reduceAdd, Nat.reduceLT, Nat.reduceLeDiff, Nat.reduceMul, Nat.reduceBEq, reduceIte, gi6, i6, c10, gi17, i17, c23, hv24, gi31, i31, c37, hv38, c39, c42]
                  rw [hR41]
                  simp -implicitDefEqProofs only [go_sem, Nat.reduceEqDiff, Nat.reduceAdd, Nat.reduceLT, Nat.reduceLeDiff, Nat.reduceMul, Nat.reduceBEq, reduceIte, gi6, i6, c10, gi17, i17, c23, hv24, gi31, i31, c37, hv38, c39, c42]
              · replace h := h; clear hz
                rintro s i
                rw [hR41] at i
                obtain ⟨gi44, i44⟩ := i
                clear hR41
                try dsimp only at h
                simp -implicitDefEqProofs only [go_sem, Nat.reduceEqDiff, Nat.reduceAdd, Nat.reduceLT, Nat.reduceLeDiff, Nat.reduceMul, Nat.reduceBEq, reduceIte, gi6, i6, c10, gi17, i17, c23, hv24, gi31, i31, c37, hv38, c39, gi44, i44]
                obtain ⟨⟨v45, v46⟩, hz, h⟩ := bs h
                obtain ⟨R47, hR47⟩ : ∃ R : St → Prop, R = fun s => s.G = fillKey (fillKey (fillKey (cut d G) (d + 1) 1 [.box [.p (.str a0.f0), .p (.sl (a0.f1.map cTState)), .p (.sl (a0.f2.map cTMove))]]) (d + 1) 6 [.box [.p (.str v24.f0), .p (.int .i64 v24.f1), .p (.sl (v24.f2.map cTOut))]]) (d + 1) 8 [.box [.p (.str v38.f0), .p (.int .i64 v38.f1)]] ∧ s.F 1 = .bp (d + 1, 1, 0) 0 ∧ s.F 3 = .p (.int .u32 v45) ∧ s.F 4 = .p (.bool v46) ∧ s.F 6 = .bp (d + 1, 6, 0) 0 ∧ s.F 13 = .p (.sl (a0.f2.map cTMove)) ∧ s.F 14 = .p (.int .i64 (a0.f2.length : Int)) ∧ s.F 15 = .p (.int .i64 v20) ∧ s.F 20 = .p (.sl (v24.f2.map cTOut)) ∧ s.F 21 = .p (.int .i64 (v24.f2.length : Int)) ∧ s.F 22 = .p (.int .i64 v34) ∧ True := ⟨_, rfl⟩
                refine cutG R47 ?_ ?_
                · replace h := hz
                  rcases ib h with ⟨c48, h⟩ | ⟨c48, h⟩
                  · obtain ⟨_, c49, h⟩ := bs h
                    replace c49 := rqs c49
                    cases h
                    simp -implicitDefEqProofs only [go_sem, Nat.reduceEqDiff, Nat.reduceAdd, Nat.reduceLT, Nat.reduceLeDiff, Nat.reduceMul, Nat.reduceBEq, reduceIte, gi6, i6, c10, gi17, i17, c23, hv24, gi31, i31, c37, hv38, c39, gi44, i44, c48, c49]
                    rw [hR47]
                    simp -implicitDefEqProofs only [go_sem, Nat.reduceEqDiff, Nat.reduceAdd, Nat.reduceLT, Nat.reduceLeDiff, Nat.reduceMul, Nat.reduceBEq, reduceIte, gi6, i6, c10, gi17, i17, c23, hv24, gi31, i31, c37, hv38, c39, gi44, i44, c48, c49]
                  · cases h
                    simp -implicitDefEqProofs only [go_sem, Nat.reduceEqDiff, Nat.reduceAdd, Nat.reduceLT, Nat.reduceLeDiff, Nat.reduceMul, Nat.reduceBEq, reduceIte, gi6, i6, c10, gi17, i17, c23, hv24, gi31, i31, c37, hv38, c39, gi44, i44, c48]
                    rw [hR47]
                    simp -implicitDefEqProofs only [go_sem, Nat.reduceEqDiff, Nat.reduceAdd, Nat.reduceLT, Nat.reduceLeDiff, Nat.reduceMul, Nat.reduceBEq, reduceIte, gi6, i6, c10, gi17, i17, c23, hv24, gi31, i31, c37, hv38, c39, gi44, i44, c48]
                · replace h := h; clear hz
                  rintro s i
                  rw [hR47] at i
                  obtain ⟨gi50, i50⟩ := i
                  clear hR47
                  try dsimp only at h
                  cases h
                  simp -implicitDefEqProofs only [go_sem, Nat.reduceEqDiff, Nat.reduceAdd, Nat.reduceLT, Nat.reduceLeDiff, Nat.reduceMul, Nat.reduceBEq, reduceIte, gi6, i6, c10, gi17, i17, c23, hv24, gi31, i31, c37, hv38, c39, gi44, i44, gi50, i50]
                  rw [hI31]
                  simp -implicitDefEqProofs only [go_sem, Nat.reduceEqDiff, Nat.reduceAdd, Nat.reduceLT, Nat.reduceLeDiff, Nat.reduceMul, Nat.reduceBEq, reduceIte, gi6, i6, c10, gi17, i17, c23, hv24, gi31, i31, c37, hv38, c39, gi44, i44, gi50, i50]
            · cases h
              simp -implicitDefEqProofs only [go_sem, Nat.reduceEqDiff, Nat.reduceAdd, Nat.reduceLT, Nat.reduceLeDiff, Nat.reduceMul, Nat.reduceBEq, reduceIte, gi6, i6, c10, gi17, i17, c23, hv24, gi31, i31, c37]
              rw [hR31]
              refine ⟨rfl, ?_⟩
              simp -implicitDefEqProofs only [go_sem, Nat.reduceEqDiff, Nat.reduceAdd, Nat.reduceLT, Nat.reduceLeDiff, Nat.reduceMul, Nat.reduceBEq, reduceIte, gi6, i6, c10, gi17, i17, c23, hv24, gi31, i31, c37]
          · clear hL31 hI31
            intro e s hr31
            rw [hR31] at hr31
            clear hR31
            rcases z31 with ⟨v35, v36⟩
            try dsimp only at h hr31
            obtain ⟨rfl, gi51, i51⟩ := hr31
            cases h
            simp -implicitDefEqProofs only [go_sem, Nat.reduceEqDiff, Nat.reduceAdd, Nat.reduceLT, Nat.reduceLeDiff, Nat.reduceMul, Nat.reduceBEq, reduceIte, gi6, i6, c10, gi17, i17, c23, hv24, gi51, i51]
            rw [hI17]
            simp -implicitDefEqProofs only [go_sem, Nat.reduceEqDiff, Nat.reduceAdd, Nat.reduceLT, Nat.reduceLeDiff, Nat.reduceMul, Nat.reduceBEq, reduceIte, gi6, i6, c10, gi17, i17, c23, hv24, gi51, i51]
        · cases h
          simp -implicitDefEqProofs only [go_sem, Nat.reduceEqDiff, Nat.reduceAdd, Nat.reduceLT, Nat.reduceLeDiff, Nat.reduceMul, Nat.reduceBEq, reduceIte, gi6, i6, c10, gi17, i17, c23]
          rw [hR17]
          refine ⟨rfl, ?_⟩
          simp -implicitDefEqProofs only [go_sem, Nat.reduceEqDiff, Nat.reduceAdd, Nat.reduceLT, Nat.reduceLeDiff, Nat.reduceMul, Nat.reduceBEq, reduceIte, gi6, i6, c10, gi17, i17, c23]
      · clear hL17 hI17
        intro e s hr17
        rw [hR17] at hr17
        clear hR17
        rcases z17 with ⟨v21, v22⟩
        try dsimp only at h hr17
        obtain ⟨rfl, gi52, i52⟩ := hr17
        cases h
        simp -implicitDefEqProofs only [go_sem, Nat.reduceEqDiff, Nat.reduceAdd, Nat.reduceLT, Nat.reduceLeDiff, Nat.reduceMul, Nat.reduceBEq, reduceIte, gi6, i6, c10, gi52, i52]
        rw [hI6]
        simp -implicitDefEqProofs only [go_sem, Nat.reduceEqDiff, Nat.reduceAdd, Nat.reduceLT, Nat.reduceLeDiff, Nat.reduceMul, Nat.reduceBEq, reduceIte, gi6, i6, c10, gi52, i52]
    · cases h
      simp -implicitDefEqProofs only [go_sem, Nat.reduceEqDiff, Nat.reduceAdd, Nat.reduceLT, Nat.reduceLeDiff, Nat.reduceMul, Nat.reduceBEq, reduceIte, gi6, i6, c10]
      rw [hR6]
      refine ⟨rfl, ?_⟩
      simp -implicitDefEqProofs only [go_sem, Nat.reduceEqDiff, Nat.reduceAdd, Nat.reduceLT, Nat.reduceLeDiff, Nat.reduceMul, Nat.reduceBEq, reduceIte, gi6, i6, c10]
  · clear hL6 hI6
    intro e s hr6
    rw [hR6] at hr6
    clear hR6
    revert h hr6
    generalize z6 = v9
    intro h hr6
    try dsimp only at h hr6
    obtain ⟨rfl, gi53, i53⟩ := hr6
    cases h
    subst hQ
    simp -implicitDefEqProofs only [go_sem, Nat.reduceEqDiff, Nat.reduceAdd, Nat.reduceLT, Nat.reduceLeDiff, Nat.reduceMul, Nat.reduceBEq, reduceIte, gi53, i53, Try.results33]
theorem m_slices_IndexFunc_api_Out_ev (a0 : List TOut) (a1 : (TOut → Option Bool)) (n1 : FuncId) (q1 : List GV) (hc1 : closeds q1) (hf1 : ∀ x0 r, a1 x0 = some r → ∀ d, Tel Try.prog TB d n1 ([.agg ((cTOut x0).map .p)] ++ q1) empty (.p (.bool r)) empty) (r0 : Int) (h : m_slices_IndexFunc_api_Out a0 a1 = some r0) (d : Nat) (G : Heap) : Tel Try.prog TB d 61 [.p (.sl (a0.map cTOut)), .fn n1 q1] G (.p (.int .i64 r0)) G := by
  unfold m_slices_IndexFunc_api_Out at h
  refine Tel.intro mix Try.func61 rfl (Nat.le_of_ble_eq_true rfl) {frzAt := fun t => t == 16} (by kernel_rfl) (by kernel_rfl) ?_
  generalize hQ : callPost _ _ _ _ _ = Q
  simp -implicitDefEqProofs only [go_sem, Nat.reduceEqDiff, Nat.reduceAdd, Nat.reduceLT, Nat.reduceLeDiff, Nat.reduceMul, Nat.reduceBEq, reduceIte]
  obtain ⟨z3, hL3, h⟩ := bs h
  obtain ⟨I3, hI3⟩ : ∃ I : Int → St → Prop, I = fun v4 s => s.G = cut d G ∧ s.F 0 = .p (.sl (a0.map cTOut)) ∧ s.F 1 = .fn n1 q1 ∧ s.F 7 = .p (.int .i64 (a0.length : Int)) ∧ s.F 8 = .p (.int .i64 v4) ∧ True := ⟨_, rfl⟩
  obtain ⟨R3, hR3⟩ : ∃ R : ((Unit) ⊕ (Int)) → GE → St → Prop, R = fun x e s => match x with | .inl _ => e = .exit 0 ∧ s.G = cut d G ∧ True | .inr r => e = .ret ∧ (r = r0 → Q .ret s) := ⟨_, rfl⟩
  refine lp (ts := []) rfl hL3 I3 R3 ?_ ?_ ?_
  · rw [hI3]
    simp -implicitDefEqProofs only [go_sem, Nat.reduceEqDiff, Nat.reduceAdd, Nat.reduceLT, Nat.reduceLeDiff, Nat.reduceMul, Nat.reduceBEq, reduceIte]
  · clear h hL3
    rintro v4 y s h i
    rw [hI3] at i
    obtain ⟨gi3, i3⟩ := i
    replace h : m_slices_IndexFunc_api_Out_L0 a0 a1 (v4) = some y := h
    unfold m_slices_IndexFunc_api_Out_L0 at h
    rcases ib h with ⟨c5, h⟩ | ⟨c5, h⟩
    · obtain ⟨v6, hv6, h⟩ := bs h
      replace hv6 := gis hv6
      obtain ⟨r7, hr7, h⟩ := bs h
      simp -implicitDefEqProofs only [go_sem, Nat.reduceEqDiff, Nat.reduceAdd, Nat.reduceLT, Nat.reduceLeDiff, Nat.reduceMul, Nat.reduceBEq, reduceIte, gi3, i3, c5, hv6]
      refine call_frz (r' := .p (.bool r7)) (hf1 v6 r7 hr7 (d + 1)) (by simp -implicitDefEqProofs only [go_sem, Nat.reduceEqDiff, Nat.reduceAdd, Nat.reduceLT, Nat.reduceLeDiff, Nat.reduceMul, Nat.reduceBEq, reduceIte, gi3, i3, c5, hv6]) rfl (by simp -implicitDefEqProofs only [go_sem, Nat.reduceEqDiff, Nat.reduceAdd, Nat.reduceLT, Nat.reduceLeDiff, Nat.reduceMul, Nat.reduceBEq, reduceIte, hc1]) (by simp -implicitDefEqProofs only [go_sem, Nat.reduceEqDiff, Nat.reduceAdd, Nat.reduceLT, Nat.reduceLeDiff, Nat.reduceMul, Nat.reduceBEq, reduceIte]) ?_ rfl rfl
      rcases ib h with ⟨c8, h⟩ | ⟨c8, h⟩
      · cases h
        simp -implicitDefEqProofs only [go_sem, Nat.reduceEqDiff, Nat.reduceAdd, Nat.reduceLT, Nat.reduceLeDiff, Nat.reduceMul, Nat.reduceBEq, reduceIte, gi3, i3, c5, hv6, c8]
        rw [hR3]
        refine ⟨rfl, ?_⟩
        intro hr
        subst hr
        subst hQ
        simp -implicitDefEqProofs only [go_sem, Nat.reduceEqDiff, Nat.reduceAdd, Nat.reduceLT, Nat.reduceLeDiff, Nat.reduceMul, Nat.reduceBEq, reduceIte, gi3, i3, c5, hv6, c8, Try.results61]
      · cases h
        simp -implicitDefEqProofs only [go_sem, Nat.reduceEqDiff, Nat.reduceAdd, Nat.reduceLT, Nat.reduceLeDiff, Nat.reduceMul, Nat.reduceBEq, reduceIte, gi3, i3, c5, hv6, c8]
        rw [hI3]
        simp -implicitDefEqProofs only [go_sem, Nat.reduceEqDiff, Nat.reduceAdd, Nat.reduceLT, Nat.reduceLeDiff, Nat.reduceMul, Nat.reduceBEq, reduceIte, gi3, i3, c5, hv6, c8]
    · cases h
      simp -implicitDefEqProofs only [go_sem, Nat.reduceEqDiff, Nat.reduceAdd, Nat.reduceLT, Nat.reduceLeDiff, Nat.reduceMul, Nat.reduceBEq, reduceIte, gi3, i3, c5]
      rw [hR3]
      refine ⟨rfl, ?_⟩
      simp -implicitDefEqProofs only [go_sem, Nat.reduceEqDiff, Nat.reduceAdd, Nat.reduceLT, Nat.reduceLeDiff, Nat.reduceMul, Nat.reduceBEq, reduceIte, gi3, i3, c5]
  · clear hL3 hI3
    intro e s hr3
    rw [hR3] at hr3
    clear hR3
    rcases z3 with _ | r
    · try dsimp only at h hr3
      obtain ⟨rfl, gi9, i9⟩ := hr3
      cases h
      subst hQ
      simp -implicitDefEqProofs only [go_sem, Nat.reduceEqDiff, Nat.reduceAdd, Nat.reduceLT, Nat.reduceLeDiff, Nat.reduceMul, Nat.reduceBEq, reduceIte, gi9, i9, Try.results61]
    · try dsimp only at h hr3
      obtain ⟨rfl, hr3⟩ := hr3
      cases h
      try simp -implicitDefEqProofs only [go_sem, Nat.reduceEqDiff, Nat.reduceAdd, Nat.reduceLT, Nat.reduceLeDiff, Nat.reduceMul, Nat.reduceBEq, reduceIte]
      exact hr3 rfl
theorem m_slices_ContainsFunc_api_Out_ev (a0 : List TOut) (a1 : (TOut → Option Bool)) (n1 : FuncId) (q1 : List GV) (hc1 : closeds q1) (hf1 : ∀ x0 r, a1 x0 = some r → ∀ d, Tel Try.prog TB d n1 ([.agg ((cTOut x0).map .p)] ++ q1) empty (.p (.bool r)) empty) (r0 : Bool) (h : m_slices_ContainsFunc_api_Out a0 a1 = some r0) (d : Nat) (G : Heap) : Tel Try.prog TB d 42 [.p (.sl (a0.map cTOut)), .fn n1 q1] G (.p (.bool r0)) G := by
  unfold m_slices_ContainsFunc_api_Out at h
  refine Tel.intro mix Try.func42 rfl (Nat.le_of_ble_eq_true rfl) {frzAt := fun t => t == 7} (by kernel_rfl) (by kernel_rfl) ?_
  generalize hQ : callPost _ _ _ _ _ = Q
  obtain ⟨r1, hr1, h⟩ := bs h
  simp -implicitDefEqProofs only [go_sem, Nat.reduceEqDiff, Nat.reduceAdd, Nat.reduceLT, Nat.reduceLeDiff, Nat.reduceMul, Nat.reduceBEq, reduceIte]
  refine call_frz (r' := .p (.int .i64 r1)) (m_slices_IndexFunc_api_Out_ev a0 a1 n1 q1 hc1 hf1 r1 hr1 (d + 1) empty) (by simp -implicitDefEqProofs only [go_sem, Nat.reduceEqDiff, Nat.reduceAdd, Nat.reduceLT, Nat.reduceLeDiff, Nat.reduceMul, Nat.reduceBEq, reduceIte]) rfl (by simp -implicitDefEqProofs only [go_sem, Nat.reduceEqDiff, Nat.reduceAdd, Nat.reduceLT, Nat.reduceLeDiff, Nat.reduceMul, Nat.reduceBEq, reduceIte, hc1]) (by simp -implicitDefEqProofs only [go_sem, Nat.reduceEqDiff, Nat.reduceAdd, Nat.reduceLT, Nat.reduceLeDiff, Nat.reduceMul, Nat.reduceBEq, reduceIte]) ?_ rfl rfl
  cases h
  subst hQ
  simp -implicitDefEqProofs only [go_sem, Nat.reduceEqDiff, Nat.reduceAdd, Nat.reduceLT, Nat.reduceLeDiff, Nat.reduceMul, Nat.reduceBEq, reduceIte, Try.results42]
theorem m_slices_IndexFunc_api_Move_ev (a0 : List TMove) (a1 : (TMove → Option Bool)) (n1 : FuncId) (q1 : List GV) (hc1 : closeds q1) (hf1 : ∀ x0 r, a1 x0 = some r → ∀ d, Tel Try.prog TB d n1 ([.agg ((cTMove x0).map .p)] ++ q1) empty (.p (.bool r)) empty) (r0 : Int) (h : m_slices_IndexFunc_api_Move a0 a1 = some r0) (d : Nat) (G : Heap) : Tel Try.prog TB d 63 [.p (.sl (a0.map cTMove)), .fn n1 q1] G (.p (.int .i64 r0)) G := by
  unfold m_slices_IndexFunc_api_Move at h
  refine Tel.intro mix Try.func63 rfl (Nat.le_of_ble_eq_true rfl) {frzAt := fun t => t == 16} (by kernel_rfl) (by kernel_rfl) ?_
  generalize hQ : callPost _ _ _ _ _ = Q
  simp -implicitDefEqProofs only [go_sem, Nat.reduceEqDiff, Nat.reduceAdd, Nat.reduceLT, Nat.reduceLeDiff, Nat.reduceMul, Nat.reduceBEq, reduceIte]
  obtain ⟨z3, hL3, h⟩ := bs h
  obtain ⟨I3, hI3⟩ : ∃ I : Int → St → Prop, I = fun v4 s => s.G = cut d G ∧ s.F 0 = .p (.sl (a0.map cTMove)) ∧ s.F 1 = .fn n1 q1 ∧ s.F 7 = .p (.int .i64 (a0.length : Int)) ∧ s.F 8 = .p (.int .i64 v4) ∧ True := ⟨_, rfl⟩
  obtain ⟨R3, hR3⟩ : ∃ R : ((Unit) ⊕ (Int)) → GE → St → Prop, R = fun x e s => match x with | .inl _ => e = .exit 0 ∧ s.G = cut d G ∧ True | .inr r => e = .ret ∧ (r = r0 → Q .ret s) := ⟨_, rfl⟩
  refine lp (ts := []) rfl hL3 I3 R3 ?_ ?_ ?_
  · rw [hI3]
    simp -implicitDefEqProofs only [go_sem, Nat.reduceEqDiff, Nat.reduceAdd, Nat.reduceLT, Nat.reduceLeDiff, Nat.reduceMul, Nat.reduceBEq, reduceIte]
  · clear h hL3
    rintro v4 y s h i
    rw [hI3] at i
    obtain ⟨gi3, i3⟩ := i
    replace h : m_slices_IndexFunc_api_Move_L0 a0 a1 (v4) = some y := h
    unfold m_slices_IndexFunc_api_Move_L0 at h
    rcases ib h with ⟨c5, h⟩ | ⟨c5, h⟩
    · obtain ⟨v6, hv6, h⟩ := bs h
      replace hv6 := gis hv6
      obtain ⟨r7, hr7, h⟩ := bs h
      simp -implicitDefEqProofs only [go_sem, Nat.reduceEqDiff, Nat.reduceAdd, Nat.reduceLT, Nat.reduceLeDiff, Nat.reduceMul, Nat.reduceBEq, reduceIte, gi3, i3, c5, hv6]
      refine call_frz (r' := .p (.bool r7)) (hf1 v6 r7 hr7 (d + 1)) (by simp -implicitDefEqProofs only [go_sem, Nat.reduceEqDiff, Nat.reduceAdd, Nat.reduceLT, Nat.reduceLeDiff, Nat.reduceMul, Nat.reduceBEq, reduceIte, gi3, i3, c5, hv6]) rfl (by simp -implicitDefEqProofs only [go_sem, Nat.reduceEqDiff, Nat.reduceAdd, Nat.reduceLT, Nat.reduceLeDiff, Nat.reduceMul, Nat.reduceBEq, reduceIte, hc1]) (by simp -implicitDefEqProofs only [go_sem, Nat.reduceEqDiff, Nat.reduceAdd, Nat.reduceLT, Nat.reduceLeDiff, Nat.reduceMul, Nat.reduceBEq, reduceIte]) ?_ rfl rfl
      rcases ib h with ⟨c8, h⟩ | ⟨c8, h⟩
      · cases h
        simp -implicitDefEqProofs only [go_sem, Nat.reduceEqDiff, Nat.reduceAdd, Nat.reduceLT, Nat.reduceLeDiff, Nat.reduceMul, Nat.reduceBEq, reduceIte, gi3, i3, c5, hv6, c8]
        rw [hR3]
        refine ⟨rfl, ?_⟩
        intro hr
        subst hr
        subst hQ
        simp -implicitDefEqProofs only [go_sem, Nat.reduceEqDiff, Nat.reduceAdd, Nat.reduceLT, Nat.reduceLeDiff, Nat.reduceMul, Nat.reduceBEq, reduceIte, gi3, i3, c5, hv6, c8, Try.results63]
      · cases h
        simp -implicitDefEqProofs only [go_sem, Nat.reduceEqDiff, Nat.reduceAdd, Nat.reduceLT, Nat.reduceLeDiff, Nat.reduceMul, Nat.reduceBEq, reduceIte, gi3, i3, c5, hv6, c8]
        rw [hI3]
        simp -implicitDefEqProofs only [go_sem, Nat.reduceEqDiff, Nat.reduceAdd, Nat.reduceLT, Nat.reduceLeDiff, Nat.reduceMul, Nat.reduceBEq, reduceIte, gi3, i3, c5, hv6, c8]
    · cases h
      simp -implicitDefEqProofs only [go_sem, Nat.reduceEqDiff, Nat.reduceAdd, Nat.reduceLT, Nat.reduceLeDiff, Nat.reduceMul, Nat.reduceBEq, reduceIte, gi3, i3, c5]
      rw [hR3]
      refine ⟨rfl, ?_⟩
      simp -implicitDefEqProofs only [go_sem, Nat.reduceEqDiff, Nat.reduceAdd, Nat.reduceLT, Nat.reduceLeDiff, Nat.reduceMul, Nat.reduceBEq, reduceIte, gi3, i3, c5]
  · clear hL3 hI3
    intro e s hr3
    rw [hR3] at hr3
    clear hR3
    rcases z3 with _ | r
    · try dsimp only at h hr3
      obtain ⟨rfl, gi9, i9⟩ := hr3
      cases h
      subst hQ
      simp -implicitDefEqProofs only [go_sem, Nat.reduceEqDiff, Nat.reduceAdd, Nat.reduceLT, Nat.reduceLeDiff, Nat.reduceMul, Nat.reduceBEq, reduceIte, gi9, i9, Try.results63]
    · try dsimp only at h hr3
      obtain ⟨rfl, hr3⟩ := hr3
      cases h
      try simp -implicitDefEqProofs only [go_sem, Nat.reduceEqDiff, Nat.reduceAdd, Nat.reduceLT, Nat.reduceLeDiff, Nat.reduceMul, Nat.reduceBEq, reduceIte]
      exact hr3 rfl
theorem m_slices_ContainsFunc_api_Move_ev (a0 : List TMove) (a1 : (TMove → Option Bool)) (n1 : FuncId) (q1 : List GV) (hc1 : closeds q1) (hf1 : ∀ x0 r, a1 x0 = some r → ∀ d, Tel Try.prog TB d n1 ([.agg ((cTMove x0).map .p)] ++ q1) empty (.p (.bool r)) empty) (r0 : Bool) (h : m_slices_ContainsFunc_api_Move a0 a1 = some r0) (d : Nat) (G : Heap) : Tel Try.prog TB d 55 [.p (.sl (a0.map cTMove)), .fn n1 q1] G (.p (.bool r0)) G := by
  unfold m_slices_ContainsFunc_api_Move at h
  refine Tel.intro mix Try.func55 rfl (Nat.le_of_ble_eq_true rfl) {frzAt := fun t => t == 7} (by kernel_rfl) (by kernel_rfl) ?_
  generalize hQ : callPost _ _ _ _ _ = Q
  obtain ⟨r1, hr1, h⟩ := bs h
  simp -implicitDefEqProofs only [go_sem, Nat.reduceEqDiff, Nat.reduceAdd, Nat.reduceLT, Nat.reduceLeDiff, Nat.reduceMul, Nat.reduceBEq, reduceIte]
  refine call_frz (r' := .p (.int .i64 r1)) (m_slices_IndexFunc_api_Move_ev a0 a1 n1 q1 hc1 hf1 r1 hr1 (d + 1) empty) (by simp -implicitDefEqProofs only [go_sem, Nat.reduceEqDiff, Nat.reduceAdd, Nat.reduceLT, Nat.reduceLeDiff, Nat.reduceMul, Nat.reduceBEq, reduceIte]) rfl (by simp -implicitDefEqProofs only [go_sem, Nat.reduceEqDiff, Nat.reduceAdd, Nat.reduceLT, Nat.reduceLeDiff, Nat.reduceMul, Nat.reduceBEq, reduceIte, hc1]) (by simp -implicitDefEqProofs only [go_sem, Nat.reduceEqDiff, Nat.reduceAdd, Nat.reduceLT, Nat.reduceLeDiff, Nat.reduceMul, Nat.reduceBEq, reduceIte]) ?_ rfl rfl
  cases h
  subst hQ
  simp -implicitDefEqProofs only [go_sem, Nat.reduceEqDiff, Nat.reduceAdd, Nat.reduceLT, Nat.reduceLeDiff, Nat.reduceMul, Nat.reduceBEq, reduceIte, Try.results55]
theorem m_slices_IndexFunc_api_State_ev (a0 : List TState) (a1 : (TState → Option Bool)) (n1 : FuncId) (q1 : List GV) (hc1 : closeds q1) (hf1 : ∀ x0 r, a1 x0 = some r → ∀ d, Tel Try.prog TB d n1 ([.agg ((cTState x0).map .p)] ++ q1) empty (.p (.bool r)) empty) (r0 : Int) (h : m_slices_IndexFunc_api_State a0 a1 = some r0) (d : Nat) (G : Heap) : Tel Try.prog TB d 48 [.p (.sl (a0.map cTState)), .fn n1 q1] G (.p (.int .i64 r0)) G := by
  unfold m_slices_IndexFunc_api_State at h
  refine Tel.intro mix Try.func48 rfl (Nat.le_of_ble_eq_true rfl) {frzAt := fun t => t == 16} (by kernel_rfl) (by kernel_rfl) ?_
  generalize hQ : callPost _ _ _ _ _ = Q
  simp -implicitDefEqProofs only [go_sem, Nat.reduceEqDiff, Nat.reduceAdd, Nat.reduceLT, Nat.reduceLeDiff, Nat.reduceMul, Nat.reduceBEq, reduceIte]
  obtain ⟨z3, hL3, h⟩ := bs h
  obtain ⟨I3, hI3⟩ : ∃ I : Int → St → Prop, I = fun v4 s => s.G = cut d G ∧ s.F 0 = .p (.sl (a0.map cTState)) ∧ s.F 1 = .fn n1 q1 ∧ s.F 7 = .p (.int .i64 (a0.length : Int)) ∧ s.F 8 = .p (.int .i64 v4) ∧ True := ⟨_, rfl⟩
  obtain ⟨R3, hR3⟩ : ∃ R : ((Unit) ⊕ (Int)) → GE → St → Prop, R = fun x e s => match x with | .inl _ => e = .exit 0 ∧ s.G = cut d G ∧ True | .inr r => e = .ret ∧ (r = r0 → Q .ret s) := ⟨_, rfl⟩
  refine lp (ts := []) rfl hL3 I3 R3 ?_ ?_ ?_
  · rw [hI3]
    simp -implicitDefEqProofs only [go_sem, Nat.reduceEqDiff, Nat.reduceAdd, Nat.reduceLT, Nat.reduceLeDiff, Nat.reduceMul, Nat.reduceBEq, reduceIte]
  · clear h hL3
    rintro v4 y s h i
    rw [hI3] at i
    obtain ⟨gi3, i3⟩ := i
    replace h : m_slices_IndexFunc_api_State_L0 a0 a1 (v4) = some y := h
    unfold m_slices_IndexFunc_api_State_L0 at h
    rcases ib h with ⟨c5, h⟩ | ⟨c5, h⟩
    · obtain ⟨v6, hv6, h⟩ := bs h
      replace hv6 := gis hv6
      obtain ⟨r7, hr7, h⟩ := bs h
      simp -implicitDefEqProofs only [go_sem, Nat.reduceEqDiff, Nat.reduceAdd, Nat.reduceLT, Nat.reduceLeDiff, Nat.reduceMul, Nat.reduceBEq, reduceIte, gi3, i3, c5, hv6]
      refine call_frz (r' := .p (.bool r7)) (hf1 v6 r7 hr7 (d + 1)) (by simp -implicitDefEqProofs only [go_sem, Nat.reduceEqDiff, Nat.reduceAdd, Nat.reduceLT, Nat.reduceLeDiff, Nat.reduceMul, Nat.reduceBEq, reduceIte, gi3, i3, c5, hv6]) rfl (by simp -implicitDefEqProofs only [go_sem, Nat.reduceEqDiff, Nat.reduceAdd, Nat.reduceLT, Nat.reduceLeDiff, Nat.reduceMul, Nat.reduceBEq, reduceIte, hc1]) (by simp -implicitDefEqProofs only [go_sem, Nat.reduceEqDiff, Nat.reduceAdd, Nat.reduceLT, Nat.reduceLeDiff, Nat.reduceMul, Nat.reduceBEq, reduceIte]) ?_ rfl rfl
      rcases ib h with ⟨c8, h⟩ | ⟨c8, h⟩
      · cases h
        simp -implicitDefEqProofs only [go_sem, Nat.reduceEqDiff, Nat.reduceAdd, Nat.reduceLT, Nat.reduceLeDiff, Nat.reduceMul, Nat.reduceBEq, reduceIte, gi3, i3, c5, hv6, c8]
        rw [hR3]
        refine ⟨rfl, ?_⟩
        intro hr
        subst hr
        subst hQ
        simp -implicitDefEqProofs only [go_sem, Nat.reduceEqDiff, Nat.reduceAdd, Nat.reduceLT, Nat.reduceLeDiff, Nat.reduceMul, Nat.reduceBEq, reduceIte, gi3, i3, c5, hv6, c8, Try.results48]
      · cases h
        simp -implicitDefEqProofs only [go_sem, Nat.reduceEqDiff, Nat.reduceAdd, Nat.reduceLT, Nat.reduceLeDiff, Nat.reduceMul, Nat.reduceBEq, reduceIte, gi3, i3, c5, hv6, c8]
        rw [hI3]
        simp -implicitDefEqProofs only [go_sem, Nat.reduceEqDiff, Nat.reduceAdd, Nat.reduceLT, Nat.reduceLeDiff, Nat.reduceMul, Nat.reduceBEq, reduceIte, gi3, i3, c5, hv6, c8]
    · cases h
      simp -implicitDefEqProofs only [go_sem, Nat.reduceEqDiff, Nat.reduceAdd, Nat.reduceLT, Nat.reduceLeDiff, Nat.reduceMul, Nat.reduceBEq, reduceIte, gi3, i3, c5]
      rw [hR3]
      refine ⟨rfl, ?_⟩
      simp -implicitDefEqProofs only [go_sem, Nat.reduceEqDiff, Nat.reduceAdd, Nat.reduceLT, Nat.reduceLeDiff, Nat.reduceMul, Nat.reduceBEq, reduceIte, gi3, i3, c5]
  · clear hL3 hI3
    intro e s hr3
    rw [hR3] at hr3
    clear hR3
    rcases z3 with _ | r
    · try dsimp only at h hr3
      obtain ⟨rfl, gi9, i9⟩ := hr3
      cases h
      subst hQ
      simp -implicitDefEqProofs only [go_sem, Nat.reduceEqDiff, Nat.reduceAdd, Nat.reduceLT, Nat.reduceLeDiff, Nat.reduceMul, Nat.reduceBEq, reduceIte, gi9, i9, Try.results48]
    · try dsimp only at h hr3
      obtain ⟨rfl, hr3⟩ := hr3
      cases h
      try simp -implicitDefEqProofs only [go_sem, Nat.reduceEqDiff, Nat.reduceAdd, Nat.reduceLT, Nat.reduceLeDiff, Nat.reduceMul, Nat.reduceBEq, reduceIte]
      exact hr3 rfl
theorem m_slices_Index_string_ev (a0 : List ByteArray) (a1 : ByteArray) (r0 : Int) (h : m_slices_Index_string a0 a1 = some r0) (d : Nat) (G : Heap) : Tel Try.prog TB d 62 [.p (.sl (a0.map cstr)), .p (.str a1)] G (.p (.int .i64 r0)) G := by
  unfold m_slices_Index_string at h
  refine Tel.intro mix Try.func62 rfl (Nat.le_of_ble_eq_true rfl) {} (by kernel_rfl) (by kernel_rfl) ?_
  generalize hQ : callPost _ _ _ _ _ = Q
  simp -implicitDefEqProofs only [go_sem, Nat.reduceEqDiff, Nat.reduceAdd, Nat.reduceLT, Nat.reduceLeDiff, Nat.reduceMul, Nat.reduceBEq, reduceIte]
  obtain ⟨z3, hL3, h⟩ := bs h
  obtain ⟨I3, hI3⟩ : ∃ I : Int → St → Prop, I = fun v4 s => s.G = cut d G ∧ s.F 0 = .p (.sl (a0.map cstr)) ∧ s.F 1 = .p (.str a1) ∧ s.F 7 = .p (.int .i64 (a0.length : Int)) ∧ s.F 8 = .p (.int .i64 v4) ∧ True := ⟨_, rfl⟩
  obtain ⟨R3, hR3⟩ : ∃ R : ((Unit) ⊕ (Int)) → GE → St → Prop, R = fun x e s => match x with | .inl _ => e = .exit 0 ∧ s.G = cut d G ∧ True | .inr r => e = .ret ∧ (r = r0 → Q .ret s) := ⟨_, rfl⟩
  refine lp (ts := []) rfl hL3 I3 R3 ?_ ?_ ?_
  · rw [hI3]
    simp -implicitDefEqProofs only [go_sem, Nat.reduceEqDiff, Nat.reduceAdd, Nat.reduceLT, Nat.reduceLeDiff, Nat.reduceMul, Nat.reduceBEq, reduceIte]
  · clear h hL3
    rintro v4 y s h i
    rw [hI3] at i
    obtain ⟨gi3, i3⟩ := i
    replace h : m_slices_Index_string_L0 a0 a1 (v4) = some y := h
    unfold m_slices_Index_string_L0 at h
    rcases ib h with ⟨c5, h⟩ | ⟨c5, h⟩
    · obtain ⟨v6, hv6, h⟩ := bs h
      replace hv6 := gis hv6
      rcases ib h with ⟨c7, h⟩ | ⟨c7, h⟩
      · cases h
        simp -implicitDefEqProofs only [go_sem, Nat.reduceEqDiff, Nat.reduceAdd, Nat.reduceLT, Nat.reduceLeDiff, Nat.reduceMul, Nat.reduceBEq, reduceIte, gi3, i3, c5, hv6, c7]
        rw [hR3]
        refine ⟨rfl, ?_⟩
        intro hr
        subst hr
        subst hQ
        simp -implicitDefEqProofs only [go_sem, Nat.reduceEqDiff, Nat.reduceAdd, Nat.reduceLT, Nat.reduceLeDiff, Nat.reduceMul, Nat.reduceBEq, reduceIte, gi3, i3, c5, hv6, c7, Try.results62]
      · cases h
        simp -implicitDefEqProofs only [go_sem, Nat.reduceEqDiff, Nat.reduceAdd, Nat.reduceLT, Nat.reduceLeDiff, Nat.reduceMul, Nat.reduceBEq, reduceIte, gi3, i3, c5, hv6, c7]
        rw [hI3]
        simp -implicitDefEqProofs only [go_sem, Nat.reduceEqDiff, Nat.reduceAdd, Nat.reduceLT, Nat.reduceLeDiff, Nat.reduceMul, Nat.reduceBEq, reduceIte, gi3, i3, c5, hv6, c7]
    · cases h
      simp -implicitDefEqProofs only [go_sem, Nat.reduceEqDiff, Nat.reduceAdd, Nat.reduceLT, Nat.reduceLeDiff, Nat.reduceMul, Nat.reduceBEq, reduceIte, gi3, i3, c5]
      rw [hR3]
      refine ⟨rfl, ?_⟩
      simp -implicitDefEqProofs only [go_sem, Nat.reduceEqDiff, Nat.reduceAdd, Nat.reduceLT, Nat.reduceLeDiff, Nat.reduceMul, Nat.reduceBEq, reduceIte, gi3, i3, c5]
  · clear hL3 hI3
    intro e s hr3
    rw [hR3] at hr3
    clear hR3
    rcases z3 with _ | r
    · try dsimp only at h hr3
      obtain ⟨rfl, gi8, i8⟩ := hr3
      cases h
      subst hQ
      simp -implicitDefEqProofs only [go_sem, Nat.reduceEqDiff, Nat.reduceAdd, Nat.reduceLT, Nat.reduceLeDiff, Nat.reduceMul, Nat.reduceBEq, reduceIte, gi8, i8, Try.results62]
    · try dsimp only at h hr3
      obtain ⟨rfl, hr3⟩ := hr3
      cases h
      try simp -implicitDefEqProofs only [go_sem, Nat.reduceEqDiff, Nat.reduceAdd, Nat.reduceLT, Nat.reduceLeDiff, Nat.reduceMul, Nat.reduceBEq, reduceIte]
      exact hr3 rfl
theorem m_slices_Contains_string_ev (a0 : List ByteArray) (a1 : ByteArray) (r0 : Bool) (h : m_slices_Contains_string a0 a1 = some r0) (d : Nat) (G : Heap) : Tel Try.prog TB d 45 [.p (.sl (a0.map cstr)), .p (.str a1)] G (.p (.bool r0)) G := by
  unfold m_slices_Contains_string at h
  refine Tel.intro mix Try.func45 rfl (Nat.le_of_ble_eq_true rfl) {frzAt := fun t => t == 7} (by kernel_rfl) (by kernel_rfl) ?_
  generalize hQ : callPost _ _ _ _ _ = Q
  obtain ⟨r1, hr1, h⟩ := bs h
  simp -implicitDefEqProofs only [go_sem, Nat.reduceEqDiff, Nat.reduceAdd, Nat.reduceLT, Nat.reduceLeDiff, Nat.reduceMul, Nat.reduceBEq, reduceIte]
  refine call_frz (r' := .p (.int .i64 r1)) (m_slices_Index_string_ev a0 a1 r1 hr1 (d + 1) empty) (by simp -implicitDefEqProofs only [go_sem, Nat.reduceEqDiff, Nat.reduceAdd, Nat.reduceLT, Nat.reduceLeDiff, Nat.reduceMul, Nat.reduceBEq, reduceIte]) rfl (by simp -implicitDefEqProofs only [go_sem, Nat.reduceEqDiff, Nat.reduceAdd, Nat.reduceLT, Nat.reduceLeDiff, Nat.reduceMul, Nat.reduceBEq, reduceIte]) (by simp -implicitDefEqProofs only [go_sem, Nat.reduceEqDiff, Nat.reduceAdd, Nat.reduceLT, Nat.reduceLeDiff, Nat.reduceMul, Nat.reduceBEq, reduceIte]) ?_ rfl rfl
  cases h
  subst hQ
  simp -implicitDefEqProofs only [go_sem, Nat.reduceEqDiff, Nat.reduceAdd, Nat.reduceLT, Nat.reduceLeDiff, Nat.reduceMul, Nat.reduceBEq, reduceIte, Try.results45]
theorem m_auto_move_1_ev (a0 : Int) (u0 : TProto) (r0 : Bool) (h : m_auto_move_1 a0 u0 = some r0) (d : Nat) (G : Heap) : Tel Try.prog TB d 52 [.p (.int .i64 a0), .ep (cTProto u0) 0] G (.p (.bool r0)) G := by
  unfold m_auto_move_1 at h
  refine Tel.intro mix Try.func52 rfl (Nat.le_of_ble_eq_true rfl) {} (by kernel_rfl) (by kernel_rfl) ?_
  generalize hQ : callPost _ _ _ _ _ = Q
  rcases ib h with ⟨c1, h⟩ | ⟨c1, h⟩
  · cases h
    subst hQ
    simp -implicitDefEqProofs only [go_sem, Nat.reduceEqDiff, Nat.reduceAdd, Nat.reduceLT, Nat.reduceLeDiff, Nat.reduceMul, Nat.reduceBEq, reduceIte, c1, Try.results52]
  · cases h
    subst hQ
    simp -implicitDefEqProofs only [go_sem, Nat.reduceEqDiff, Nat.reduceAdd, Nat.reduceLT, Nat.reduceLeDiff, Nat.reduceMul, Nat.reduceBEq, reduceIte, c1, Try.results52]
theorem m_auto_once_1_ev (a0 : TMove) (u0 : TMove) (r0 : Bool) (h : m_auto_once_1 a0 u0 = some r0) (d : Nat) (G : Heap) : Tel Try.prog TB d 54 [.agg ((cTMove a0).map .p), .ep (cTMove u0) 0] G (.p (.bool r0)) G := by
  unfold m_auto_once_1 at h
  refine Tel.intro mix Try.func54 rfl (Nat.le_of_ble_eq_true rfl) {} (by kernel_rfl) (by kernel_rfl) ?_
  generalize hQ : callPost _ _ _ _ _ = Q
  rcases ib h with ⟨c1, h⟩ | ⟨c1, h⟩
  · cases h
    subst hQ
    simp -implicitDefEqProofs only [go_sem, Nat.reduceEqDiff, Nat.reduceAdd, Nat.reduceLT, Nat.reduceLeDiff, Nat.reduceMul, Nat.reduceBEq, reduceIte, c1, Try.results54]
  · cases h
    subst hQ
    simp -implicitDefEqProofs only [go_sem, Nat.reduceEqDiff, Nat.reduceAdd, Nat.reduceLT, Nat.reduceLeDiff, Nat.reduceMul, Nat.reduceBEq, reduceIte, c1, Try.results54]
theorem m_auto_once_2_ev (a0 : Int) (u0 : TMove) (r0 : ByteArray) (h : m_auto_once_2 a0 u0 = some r0) (d : Nat) (G : Heap) : Tel Try.prog TB d 56 [.p (.int .i64 a0), .ep (cTMove u0) 0] G (.p (.str r0)) G := by
  unfold m_auto_once_2 at h
  refine Tel.intro mix Try.func56 rfl (Nat.le_of_ble_eq_true rfl) {} (by kernel_rfl) (by kernel_rfl) ?_
  generalize hQ : callPost _ _ _ _ _ = Q
  obtain ⟨v1, hv1, h⟩ := bs h
  replace hv1 := gis hv1
  cases h
  subst hQ
  simp -implicitDefEqProofs only [go_sem, Nat.reduceEqDiff, Nat.reduceAdd, Nat.reduceLT, Nat.reduceLeDiff, Nat.reduceMul, Nat.reduceBEq, reduceIte, hv1, Try.results56]
theorem m_auto_once_ev (a0 : TProto) (a1 : Int) (r0 : Bool) (h : m_auto_once a0 a1 = some r0) (d : Nat) (G : Heap) : Tel Try.prog TB d 32 [.agg ((cTProto a0).map .p), .p (.int .i64 a1)] G (.p (.bool r0)) G := by
  unfold m_auto_once at h
  refine Tel.intro mix Try.func32 rfl (Nat.le_of_ble_eq_true rfl) {borAt := fun t => t == 18 || t == 25} (by kernel_rfl) (by kernel_rfl) ?_
  generalize hQ : callPost _ _ _ _ _ = Q
  obtain ⟨v1, hv1, h⟩ := bs h
  replace hv1 := gis hv1
  obtain ⟨v2, hv2, h⟩ := bs h
  replace hv2 := subLs hv2
  obtain ⟨r3, hr3, h⟩ := bs h
  simp -implicitDefEqProofs only [go_sem, Nat.reduceEqDiff, Nat.reduceAdd, Nat.reduceLT, Nat.reduceLeDiff, Nat.reduceMul, Nat.reduceBEq, reduceIte, hv1, hv2]
  refine call_look (m_slices_ContainsFunc_api_Move_ev v2 (fun x0 => m_auto_once_1 x0 v1) 54 [.ep (cTMove v1) 0] (by simp -implicitDefEqProofs only [go_sem, Nat.reduceEqDiff, Nat.reduceAdd, Nat.reduceLT, Nat.reduceLeDiff, Nat.reduceMul, Nat.reduceBEq, reduceIte]) (fun x0 r h d => m_auto_once_1_ev x0 v1 r h d empty) r3 hr3 (d + 1) empty) (by simp -implicitDefEqProofs only [go_sem, Nat.reduceEqDiff, Nat.reduceAdd, Nat.reduceLT, Nat.reduceLeDiff, Nat.reduceMul, Nat.reduceBEq, reduceIte, hv1, hv2]) (by simp -implicitDefEqProofs only [go_sem, Nat.reduceEqDiff, Nat.reduceAdd, Nat.reduceLT, Nat.reduceLeDiff, Nat.reduceMul, Nat.reduceBEq, reduceIte]) (by simp -implicitDefEqProofs only [go_sem, Nat.reduceEqDiff, Nat.reduceAdd, Nat.reduceLT, Nat.reduceLeDiff, Nat.reduceMul, Nat.reduceBEq, reduceIte]) ?_ rfl
  rcases ib h with ⟨c4, h⟩ | ⟨c4, h⟩
  · obtain ⟨r5, hr5, h⟩ := bs h
    simp -implicitDefEqProofs only [go_sem, Nat.reduceEqDiff, Nat.reduceAdd, Nat.reduceLT, Nat.reduceLeDiff, Nat.reduceMul, Nat.reduceBEq, reduceIte, hv1, hv2, c4]
    refine call_look (m_auto_twice_ev (v1.f2.length : Int) (fun x0 => m_auto_once_2 x0 v1) 56 [.ep (cTMove v1) 0] (by simp -implicitDefEqProofs only [go_sem, Nat.reduceEqDiff, Nat.reduceAdd, Nat.reduceLT, Nat.reduceLeDiff, Nat.reduceMul, Nat.reduceBEq, reduceIte]) (fun x0 r h d => m_auto_once_2_ev x0 v1 r h d empty) r5 hr5 (d + 1) empty) (by simp -implicitDefEqProofs only [go_sem, Nat.reduceEqDiff, Nat.reduceAdd, Nat.reduceLT, Nat.reduceLeDiff, Nat.reduceMul, Nat.reduceBEq, reduceIte, hv1, hv2, c4]) (by simp -implicitDefEqProofs only [go_sem, Nat.reduceEqDiff, Nat.reduceAdd, Nat.reduceLT, Nat.reduceLeDiff, Nat.reduceMul, Nat.reduceBEq, reduceIte]) (by simp -implicitDefEqProofs only [go_sem, Nat.reduceEqDiff, Nat.reduceAdd, Nat.reduceLT, Nat.reduceLeDiff, Nat.reduceMul, Nat.reduceBEq, reduceIte]) ?_ rfl
    cases h
    subst hQ
    simp -implicitDefEqProofs only [go_sem, Nat.reduceEqDiff, Nat.reduceAdd, Nat.reduceLT, Nat.reduceLeDiff, Nat.reduceMul, Nat.reduceBEq, reduceIte, hv1, hv2, c4, Try.results32]
  · cases h
    subst hQ
    simp -implicitDefEqProofs only [go_sem, Nat.reduceEqDiff, Nat.reduceAdd, Nat.reduceLT, Nat.reduceLeDiff, Nat.reduceMul, Nat.reduceBEq, reduceIte, hv1, hv2, c4, Try.results32]
theorem m_ref09_in_ev (a0 : TProto) (a1 : Int) (r0 : Bool) (h : m_ref09_in a0 a1 = some r0) (d : Nat) (G : Heap) : Tel Try.prog TB d 57 [.agg ((cTProto a0).map .p), .p (.int .i64 a1)] G (.p (.bool r0)) G := by
  unfold m_ref09_in at h
  refine Tel.intro mix Try.func57 rfl (Nat.le_of_ble_eq_true rfl) {} (by kernel_rfl) (by kernel_rfl) ?_
  generalize hQ : callPost _ _ _ _ _ = Q
  rcases ib h with ⟨c1, h⟩ | ⟨c1, h⟩
  · cases h
    subst hQ
    simp -implicitDefEqProofs only [go_sem, Nat.reduceEqDiff, Nat.reduceAdd, Nat.reduceLT, Nat.reduceLeDiff, Nat.reduceMul, Nat.reduceBEq, reduceIte, c1, Try.results57]
  · cases h
    subst hQ
    simp -implicitDefEqProofs only [go_sem, Nat.reduceEqDiff, Nat.reduceAdd, Nat.reduceLT, Nat.reduceLeDiff, Nat.reduceMul, Nat.reduceBEq, reduceIte, c1, Try.results57]
theorem m_ref09_has_ev (a0 : List Int) (a1 : Int) (r0 : Bool) (h : m_ref09_has a0 a1 = some r0) (d : Nat) (G : Heap) : Tel Try.prog TB d 58 [.p (.sl (a0.map cii64)), .p (.int .i64 a1)] G (.p (.bool r0)) G := by
  unfold m_ref09_has at h
  refine Tel.intro mix Try.func58 rfl (Nat.le_of_ble_eq_true rfl) {} (by kernel_rfl) (by kernel_rfl) ?_
  generalize hQ : callPost _ _ _ _ _ = Q
  simp -implicitDefEqProofs only [go_sem, Nat.reduceEqDiff, Nat.reduceAdd, Nat.reduceLT, Nat.reduceLeDiff, Nat.reduceMul, Nat.reduceBEq, reduceIte]
  obtain ⟨z3, hL3, h⟩ := bs h
  obtain ⟨I3, hI3⟩ : ∃ I : Int → St → Prop, I = fun v4 s => s.G = cut d G ∧ s.F 0 = .p (.sl (a0.map cii64)) ∧ s.F 1 = .p (.int .i64 a1) ∧ s.F 5 = .p (.int .i64 v4) ∧ True := ⟨_, rfl⟩
  obtain ⟨R3, hR3⟩ : ∃ R : ((Unit) ⊕ (Bool)) → GE → St → Prop, R = fun x e s => match x with | .inl _ => e = .exit 0 ∧ s.G = cut d G ∧ True | .inr r => e = .ret ∧ (r = r0 → Q .ret s) := ⟨_, rfl⟩
  refine lp (ts := []) rfl hL3 I3 R3 ?_ ?_ ?_
  · rw [hI3]
    simp -implicitDefEqProofs only [go_sem, Nat.reduceEqDiff, Nat.reduceAdd, Nat.reduceLT, Nat.reduceLeDiff, Nat.reduceMul, Nat.reduceBEq, reduceIte]
  · clear h hL3
    rintro v4 y s h i
    rw [hI3] at i
    obtain ⟨gi3, i3⟩ := i
    replace h : m_ref09_has_L0 a0 a1 (v4) = some y := h
    unfold m_ref09_has_L0 at h
    rcases ib h with ⟨c5, h⟩ | ⟨c5, h⟩
    · obtain ⟨v6, hv6, h⟩ := bs h
      replace hv6 := gis hv6
      rcases ib h with ⟨c7, h⟩ | ⟨c7, h⟩
      · cases h
        simp -implicitDefEqProofs only [go_sem, Nat.reduceEqDiff, Nat.reduceAdd, Nat.reduceLT, Nat.reduceLeDiff, Nat.reduceMul, Nat.reduceBEq, reduceIte, gi3, i3, c5, hv6, c7]
        rw [hR3]
        refine ⟨rfl, ?_⟩
        intro hr
        subst hr
        subst hQ
        simp -implicitDefEqProofs only [go_sem, Nat.reduceEqDiff, Nat.reduceAdd, Nat.reduceLT, Nat.reduceLeDiff, Nat.reduceMul, Nat.reduceBEq, reduceIte, gi3, i3, c5, hv6, c7, Try.results58]
      · cases h
        simp -implicitDefEqProofs only [go_sem, Nat.reduceEqDiff, Nat.reduceAdd, Nat.reduceLT, Nat.reduceLeDiff, Nat.reduceMul, Nat.reduceBEq, reduceIte, gi3, i3, c5, hv6, c7]
        rw [hI3]
        simp -implicitDefEqProofs only [go_sem, Nat.reduceEqDiff, Nat.reduceAdd, Nat.reduceLT, Nat.reduceLeDiff, Nat.reduceMul, Nat.reduceBEq, reduceIte, gi3, i3, c5, hv6, c7]
    · cases h
      simp -implicitDefEqProofs only [go_sem, Nat.reduceEqDiff, Nat.reduceAdd, Nat.reduceLT, Nat.reduceLeDiff, Nat.reduceMul, Nat.reduceBEq, reduceIte, gi3, i3, c5]
      rw [hR3]
      refine ⟨rfl, ?_⟩
      simp -implicitDefEqProofs only [go_sem, Nat.reduceEqDiff, Nat.reduceAdd, Nat.reduceLT, Nat.reduceLeDiff, Nat.reduceMul, Nat.reduceBEq, reduceIte, gi3, i3, c5]
  · clear hL3 hI3
    intro e s hr3
    rw [hR3] at hr3
    clear hR3
    rcases z3 with _ | r
    · try dsimp only at h hr3
      obtain ⟨rfl, gi8, i8⟩ := hr3
      cases h
      subst hQ
      simp -implicitDefEqProofs only [go_sem, Nat.reduceEqDiff, Nat.reduceAdd, Nat.reduceLT, Nat.reduceLeDiff, Nat.reduceMul, Nat.reduceBEq, reduceIte, gi8, i8, Try.results58]
    · try dsimp only at h hr3
      obtain ⟨rfl, hr3⟩ := hr3
      cases h
      try simp -implicitDefEqProofs only [go_sem, Nat.reduceEqDiff, Nat.reduceAdd, Nat.reduceLT, Nat.reduceLeDiff, Nat.reduceMul, Nat.reduceBEq, reduceIte]
      exact hr3 rfl
theorem m_ref09_fit_ev (a0 : TProto) (a1 : TMove) (r0 : Bool) (h : m_ref09_fit a0 a1 = some r0) (d : Nat) (G : Heap) : Tel Try.prog TB d 34 [.agg ((cTProto a0).map .p), .agg ((cTMove a1).map .p)] G (.p (.bool r0)) G := by
  unfold m_ref09_fit at h
  refine Tel.intro mix Try.func34 rfl (Nat.le_of_ble_eq_true rfl) {frzAt := fun t => t == 20 || t == 25} (by kernel_rfl) (by kernel_rfl) ?_
  generalize hQ : callPost _ _ _ _ _ = Q
  simp -implicitDefEqProofs only [go_sem, Nat.reduceEqDiff, Nat.reduceAdd, Nat.reduceLT, Nat.reduceLeDiff, Nat.reduceMul, Nat.reduceBEq, reduceIte]
  obtain ⟨z3, hL3, h⟩ := bs h
  obtain ⟨I3, hI3⟩ : ∃ I : Int → St → Prop, I = fun v4 s => s.G = fillKey (fillKey (cut d G) (d + 1) 2 [.box [.p (.str a0.f0), .p (.sl (a0.f1.map cTState)), .p (.sl (a0.f2.map cTMove))]]) (d + 1) 3 [.box [.p (.str a1.f0), .p (.int .i64 a1.f1), .p (.sl (a1.f2.map cTOut))]] ∧ s.F 2 = .bp (d + 1, 2, 0) 0 ∧ s.F 3 = .bp (d + 1, 3, 0) 0 ∧ s.F 5 = .p (.int .i64 v4) ∧ True := ⟨_, rfl⟩
  obtain ⟨R3, hR3⟩ : ∃ R : ((Unit) ⊕ (Bool)) → GE → St → Prop, R = fun x e s => match x with | .inl _ => e = .exit 0 ∧ s.G = fillKey (fillKey (cut d G) (d + 1) 2 [.box [.p (.str a0.f0), .p (.sl (a0.f1.map cTState)), .p (.sl (a0.f2.map cTMove))]]) (d + 1) 3 [.box [.p (.str a1.f0), .p (.int .i64 a1.f1), .p (.sl (a1.f2.map cTOut))]] ∧ s.F 2 = .bp (d + 1, 2, 0) 0 ∧ s.F 3 = .bp (d + 1, 3, 0) 0 ∧ True | .inr r => e = .ret ∧ (r = r0 → Q .ret s) := ⟨_, rfl⟩
  refine lp (ts := []) rfl hL3 I3 R3 ?_ ?_ ?_
  · rw [hI3]
    simp -implicitDefEqProofs only [go_sem, Nat.reduceEqDiff, Nat.reduceAdd, Nat.reduceLT, Nat.reduceLeDiff, Nat.reduceMul, Nat.reduceBEq, reduceIte]
  · clear h hL3
    rintro v4 y s h i
    rw [hI3] at i
    obtain ⟨gi3, i3⟩ := i
    replace h : m_ref09_fit_L0 a1 a0 (v4) = some y := h
    unfold m_ref09_fit_L0 at h
    rcases ib h with ⟨c5, h⟩ | ⟨c5, h⟩
    · obtain ⟨v6, hv6, h⟩ := bs h
      replace hv6 := gis hv6
      obtain ⟨r7, hr7, h⟩ := bs h
      simp -implicitDefEqProofs only [go_sem, Nat.reduceEqDiff, Nat.reduceAdd, Nat.reduceLT, Nat.reduceLeDiff, Nat.reduceMul, Nat.reduceBEq, reduceIte, gi3, i3, c5, hv6]
      refine call_frz (r' := .p (.bool r7)) (m_ref09_in_ev a0 v6.f1 r7 hr7 (d + 1) empty) (by simp -implicitDefEqProofs only [go_sem, Nat.reduceEqDiff, Nat.reduceAdd, Nat.reduceLT, Nat.reduceLeDiff, Nat.reduceMul, Nat.reduceBEq, reduceIte, gi3, i3, c5, hv6]) rfl (by simp -implicitDefEqProofs only [go_sem, Nat.reduceEqDiff, Nat.reduceAdd, Nat.reduceLT, Nat.reduceLeDiff, Nat.reduceMul, Nat.reduceBEq, reduceIte]) (by simp -implicitDefEqProofs only [go_sem, Nat.reduceEqDiff, Nat.reduceAdd, Nat.reduceLT, Nat.reduceLeDiff, Nat.reduceMul, Nat.reduceBEq, reduceIte]) ?_ rfl rfl
      rcases ib h with ⟨c8, h⟩ | ⟨c8, h⟩
      · cases h
        simp -implicitDefEqProofs only [go_sem, Nat.reduceEqDiff, Nat.reduceAdd, Nat.reduceLT, Nat.reduceLeDiff, Nat.reduceMul, Nat.reduceBEq, reduceIte, gi3, i3, c5, hv6, c8]
        rw [hR3]
        refine ⟨rfl, ?_⟩
        intro hr
        subst hr
        subst hQ
        simp -implicitDefEqProofs only [go_sem, Nat.reduceEqDiff, Nat.reduceAdd, Nat.reduceLT, Nat.reduceLeDiff, Nat.reduceMul, Nat.reduceBEq, reduceIte, gi3, i3, c5, hv6, c8, Try.results34]
      · cases h
        simp -implicitDefEqProofs only [go_sem, Nat.reduceEqDiff, Nat.reduceAdd, Nat.reduceLT, Nat.reduceLeDiff, Nat.reduceMul, Nat.reduceBEq, reduceIte, gi3, i3, c5, hv6, c8]
        rw [hI3]
        simp -implicitDefEqProofs only [go_sem, Nat.reduceEqDiff, Nat.reduceAdd, Nat.reduceLT, Nat.reduceLeDiff, Nat.reduceMul, Nat.reduceBEq, reduceIte, gi3, i3, c5, hv6, c8]
    · cases h
      simp -implicitDefEqProofs only [go_sem, Nat.reduceEqDiff, Nat.reduceAdd, Nat.reduceLT, Nat.reduceLeDiff, Nat.reduceMul, Nat.reduceBEq, reduceIte, gi3, i3, c5]
      rw [hR3]
      refine ⟨rfl, ?_⟩
      simp -implicitDefEqProofs only [go_sem, Nat.reduceEqDiff, Nat.reduceAdd, Nat.reduceLT, Nat.reduceLeDiff, Nat.reduceMul, Nat.reduceBEq, reduceIte, gi3, i3, c5]
  · clear hL3 hI3
    intro e s hr3
    rw [hR3] at hr3
    clear hR3
    rcases z3 with _ | r
    · try dsimp only at h hr3
      obtain ⟨rfl, gi9, i9⟩ := hr3
      obtain ⟨r10, hr10, h⟩ := bs h
      simp -implicitDefEqProofs only [go_sem, Nat.reduceEqDiff, Nat.reduceAdd, Nat.reduceLT, Nat.reduceLeDiff, Nat.reduceMul, Nat.reduceBEq, reduceIte, gi9, i9]
      refine call_frz (r' := .p (.bool r10)) (m_ref09_in_ev a0 a1.f1 r10 hr10 (d + 1) empty) (by simp -implicitDefEqProofs only [go_sem, Nat.reduceEqDiff, Nat.reduceAdd, Nat.reduceLT, Nat.reduceLeDiff, Nat.reduceMul, Nat.reduceBEq, reduceIte, gi9, i9]) rfl (by simp -implicitDefEqProofs only [go_sem, Nat.reduceEqDiff, Nat.reduceAdd, Nat.reduceLT, Nat.reduceLeDiff, Nat.reduceMul, Nat.reduceBEq, reduceIte]) (by simp -implicitDefEqProofs only [go_sem, Nat.reduceEqDiff, Nat.reduceAdd, Nat.reduceLT, Nat.reduceLeDiff, Nat.reduceMul, Nat.reduceBEq, reduceIte]) ?_ rfl rfl
      rcases ib h with ⟨c11, h⟩ | ⟨c11, h⟩
      · cases h
        subst hQ
        simp -implicitDefEqProofs only [go_sem, Nat.reduceEqDiff, Nat.reduceAdd, Nat.reduceLT, Nat.reduceLeDiff, Nat.reduceMul, Nat.reduceBEq, reduceIte, gi9, i9, c11, Try.results34]
      · cases h
        subst hQ
        simp -implicitDefEqProofs only [go_sem, Nat.reduceEqDiff, Nat.reduceAdd, Nat.reduceLT, Nat.reduceLeDiff, Nat.reduceMul, Nat.reduceBEq, reduceIte, gi9, i9, c11, Try.results34]
    · try dsimp only at h hr3
      obtain ⟨rfl, hr3⟩ := hr3
      cases h
      try simp -implicitDefEqProofs only [go_sem, Nat.reduceEqDiff, Nat.reduceAdd, Nat.reduceLT, Nat.reduceLeDiff, Nat.reduceMul, Nat.reduceBEq, reduceIte]
      exact hr3 rfl
theorem m_ref09_again_ev (a0 : TProto) (a1 : Int) (r0 : Bool) (h : m_ref09_again a0 a1 = some r0) (d : Nat) (G : Heap) : Tel Try.prog TB d 35 [.agg ((cTProto a0).map .p), .p (.int .i64 a1)] G (.p (.bool r0)) G := by
  unfold m_ref09_again at h
  refine Tel.intro mix Try.func35 rfl (Nat.le_of_ble_eq_true rfl) {} (by kernel_rfl) (by kernel_rfl) ?_
  generalize hQ : callPost _ _ _ _ _ = Q
  obtain ⟨v1, hv1, h⟩ := bs h
  replace hv1 := gis hv1
  simp -implicitDefEqProofs only [go_sem, Nat.reduceEqDiff, Nat.reduceAdd, Nat.reduceLT, Nat.reduceLeDiff, Nat.reduceMul, Nat.reduceBEq, reduceIte, hv1]
  obtain ⟨z4, hL4, h⟩ := bs h
  obtain ⟨I4, hI4⟩ : ∃ I : Int → St → Prop, I = fun v5 s => s.G = fillKey (fillKey (cut d G) (d + 1) 2 [.box [.p (.str a0.f0), .p (.sl (a0.f1.map cTState)), .p (.sl (a0.f2.map cTMove))]]) (d + 1) 5 [.box [.p (.str v1.f0), .p (.int .i64 v1.f1), .p (.sl (v1.f2.map cTOut))]] ∧ s.F 1 = .p (.int .i64 a1) ∧ s.F 2 = .bp (d + 1, 2, 0) 0 ∧ s.F 5 = .bp (d + 1, 5, 0) 0 ∧ s.F 6 = .p (.int .i64 v5) ∧ True := ⟨_, rfl⟩
  obtain ⟨R4, hR4⟩ : ∃ R : ((Unit) ⊕ (Bool)) → GE → St → Prop, R = fun x e s => match x with | .inl _ => e = .exit 0 ∧ s.G = fillKey (fillKey (cut d G) (d + 1) 2 [.box [.p (.str a0.f0), .p (.sl (a0.f1.map cTState)), .p (.sl (a0.f2.map cTMove))]]) (d + 1) 5 [.box [.p (.str v1.f0), .p (.int .i64 v1.f1), .p (.sl (v1.f2.map cTOut))]] ∧ s.F 5 = .bp (d + 1, 5, 0) 0 ∧ True | .inr r => e = .ret ∧ (r = r0 → Q .ret s) := ⟨_, rfl⟩
  refine lp (ts := []) rfl hL4 I4 R4 ?_ ?_ ?_
  · rw [hI4]
    simp -implicitDefEqProofs only [go_sem, Nat.reduceEqDiff, Nat.reduceAdd, Nat.reduceLT, Nat.reduceLeDiff, Nat.reduceMul, Nat.reduceBEq, reduceIte, hv1]
  · clear h hL4
    rintro v5 y s h i
    rw [hI4] at i
    obtain ⟨gi4, i4⟩ := i
    replace h : m_ref09_again_L0 a1 a0 v1 (v5) = some y := h
    unfold m_ref09_again_L0 at h
    rcases ib h with ⟨c6, h⟩ | ⟨c6, h⟩
    · obtain ⟨v7, hv7, h⟩ := bs h
      replace hv7 := gis hv7
      simp -implicitDefEqProofs only [go_sem, Nat.reduceEqDiff, Nat.reduceAdd, Nat.reduceLT, Nat.reduceLeDiff, Nat.reduceMul, Nat.reduceBEq, reduceIte, hv1, gi4, i4, c6, hv7]
      obtain ⟨v8, hz, h⟩ := bs h
      obtain ⟨R9, hR9⟩ : ∃ R : St → Prop, R = fun s => s.G = fillKey (fillKey (cut d G) (d + 1) 2 [.box [.p (.str a0.f0), .p (.sl (a0.f1.map cTState)), .p (.sl (a0.f2.map cTMove))]]) (d + 1) 5 [.box [.p (.str v1.f0), .p (.int .i64 v1.f1), .p (.sl (v1.f2.map cTOut))]] ∧ s.F 1 = .p (.int .i64 a1) ∧ s.F 2 = .bp (d + 1, 2, 0) 0 ∧ s.F 5 = .bp (d + 1, 5, 0) 0 ∧ s.F 6 = .p (.int .i64 v5) ∧ s.F 38 = .p (.bool v8) ∧ True := ⟨_, rfl⟩
      refine cutR R9 ?_ ?_
      · replace h := hz
        rcases ib h with ⟨c10, h⟩ | ⟨c10, h⟩
        · cases h
          simp -implicitDefEqProofs only [go_sem, Nat.reduceEqDiff, Nat.reduceAdd, Nat.reduceLT, Nat.reduceLeDiff, Nat.reduceMul, Nat.reduceBEq, reduceIte, hv1, gi4, i4, c6, hv7, c10]
          rw [hR9]
          simp -implicitDefEqProofs only [go_sem, Nat.reduceEqDiff, Nat.reduceAdd, Nat.reduceLT, Nat.reduceLeDiff, Nat.reduceMul, Nat.reduceBEq, reduceIte, hv1, gi4, i4, c6, hv7, c10]
        · cases h
          simp -implicitDefEqProofs only [go_sem, Nat.reduceEqDiff, Nat.reduceAdd, Nat.reduceLT, Nat.reduceLeDiff, Nat.reduceMul, Nat.reduceBEq, reduceIte, hv1, gi4, i4, c6, hv7, c10]
          rw [hR9]
          simp -implicitDefEqProofs only [go_sem, Nat.reduceEqDiff, Nat.reduceAdd, Nat.reduceLT, Nat.reduceLeDiff, Nat.reduceMul, Nat.reduceBEq, reduceIte, hv1, gi4, i4, c6, hv7, c10]
      · replace h := h; clear hz
        rintro s i
        rw [hR9] at i
        obtain ⟨gi11, i11⟩ := i
        clear hR9
        try dsimp only at h
        rcases ib h with ⟨c12, h⟩ | ⟨c12, h⟩
        · cases h
          simp -implicitDefEqProofs only [go_sem, Nat.reduceEqDiff, Nat.reduceAdd, Nat.reduceLT, Nat.reduceLeDiff, Nat.reduceMul, Nat.reduceBEq, reduceIte, hv1, gi4, i4, c6, hv7, gi11, i11, c12]
          rw [hR4]
          refine ⟨rfl, ?_⟩
          intro hr
          subst hr
          subst hQ
          simp -implicitDefEqProofs only [go_sem, Nat.reduceEqDiff, Nat.reduceAdd, Nat.reduceLT, Nat.reduceLeDiff, Nat.reduceMul, Nat.reduceBEq, reduceIte, hv1, gi4, i4, c6, hv7, gi11, i11, c12, Try.results35]
        · cases h
          simp -implicitDefEqProofs only [go_sem, Nat.reduceEqDiff, Nat.reduceAdd, Nat.reduceLT, Nat.reduceLeDiff, Nat.reduceMul, Nat.reduceBEq, reduceIte, hv1, gi4, i4, c6, hv7, gi11, i11, c12]
          rw [hI4]
          simp -implicitDefEqProofs only [go_sem, Nat.reduceEqDiff, Nat.reduceAdd, Nat.reduceLT, Nat.reduceLeDiff, Nat.reduceMul, Nat.reduceBEq, reduceIte, hv1, gi4, i4, c6, hv7, gi11, i11, c12]
    · cases h
      simp -implicitDefEqProofs only [go_sem, Nat.reduceEqDiff, Nat.reduceAdd, Nat.reduceLT, Nat.reduceLeDiff, Nat.reduceMul, Nat.reduceBEq, reduceIte, hv1, gi4, i4, c6]
      rw [hR4]
      refine ⟨rfl, ?_⟩
      simp -implicitDefEqProofs only [go_sem, Nat.reduceEqDiff, Nat.reduceAdd, Nat.reduceLT, Nat.reduceLeDiff, Nat.reduceMul, Nat.reduceBEq, reduceIte, hv1, gi4, i4, c6]
  · clear hL4 hI4
    intro e s hr4
    rw [hR4] at hr4
    clear hR4
    rcases z4 with _ | r
    · try dsimp only at h hr4
      obtain ⟨rfl, gi13, i13⟩ := hr4
      simp -implicitDefEqProofs only [go_sem, Nat.reduceEqDiff, Nat.reduceAdd, Nat.reduceLT, Nat.reduceLeDiff, Nat.reduceMul, Nat.reduceBEq, reduceIte, hv1, gi13, i13]
      obtain ⟨z16, hL16, h⟩ := bs h
      obtain ⟨I16, hI16⟩ : ∃ I : Int → St → Prop, I = fun v17 s => s.G = fillKey (fillKey (cut d G) (d + 1) 2 [.box [.p (.str a0.f0), .p (.sl (a0.f1.map cTState)), .p (.sl (a0.f2.map cTMove))]]) (d + 1) 5 [.box [.p (.str v1.f0), .p (.int .i64 v1.f1), .p (.sl (v1.f2.map cTOut))]] ∧ s.F 5 = .bp (d + 1, 5, 0) 0 ∧ s.F 7 = .p (.int .i64 v17) ∧ True := ⟨_, rfl⟩
      obtain ⟨R16, hR16⟩ : ∃ R : ((Unit) ⊕ (Bool)) → GE → St → Prop, R = fun x e s => match x with | .inl _ => e = .exit 2 ∧ s.G = fillKey (fillKey (cut d G) (d + 1) 2 [.box [.p (.str a0.f0), .p (.sl (a0.f1.map cTState)), .p (.sl (a0.f2.map cTMove))]]) (d + 1) 5 [.box [.p (.str v1.f0), .p (.int .i64 v1.f1), .p (.sl (v1.f2.map cTOut))]] ∧ True | .inr r => e = .ret ∧ (r = r0 → Q .ret s) := ⟨_, rfl⟩
      refine lp (ts := []) rfl hL16 I16 R16 ?_ ?_ ?_
      · rw [hI16]
        simp -implicitDefEqProofs only [go_sem, Nat.reduceEqDiff, Nat.reduceAdd, Nat.reduceLT, Nat.reduceLeDiff, Nat.reduceMul, Nat.reduceBEq, reduceIte, hv1, gi13, i13]
      · clear h hL16
        rintro v17 y s h i
        rw [hI16] at i
        obtain ⟨gi16, i16⟩ := i
        replace h : m_ref09_again_L1 v1 (v17) = some y := h
        unfold m_ref09_again_L1 at h
        rcases ib h with ⟨c18, h⟩ | ⟨c18, h⟩
        · simp -implicitDefEqProofs only [go_sem, Nat.reduceEqDiff, Nat.reduceAdd, Nat.reduceLT, Nat.reduceLeDiff, Nat.reduceMul, Nat.reduceBEq, reduceIte, hv1, gi13, i13, gi16, i16, c18]
          obtain ⟨z21, hL21, h⟩ := bs h
          obtain ⟨I21, hI21⟩ : ∃ I : Int → St → Prop, I = fun v22 s => s.G = fillKey (fillKey (cut d G) (d + 1) 2 [.box [.p (.str a0.f0), .p (.sl (a0.f1.map cTState)), .p (.sl (a0.f2.map cTMove))]]) (d + 1) 5 [.box [.p (.str v1.f0), .p (.int .i64 v1.f1), .p (.sl (v1.f2.map cTOut))]] ∧ s.F 5 = .bp (d + 1, 5, 0) 0 ∧ s.F 7 = .p (.int .i64 v17) ∧ s.F 8 = .p (.int .i64 v22) ∧ True := ⟨_, rfl⟩
          obtain ⟨R21, hR21⟩ : ∃ R : ((Unit) ⊕ (Bool)) → GE → St → Prop, R = fun x e s => match x with | .inl _ => e = .exit 4 ∧ s.G = fillKey (fillKey (cut d G) (d + 1) 2 [.box [.p (.str a0.f0), .p (.sl (a0.f1.map cTState)), .p (.sl (a0.f2.map cTMove))]]) (d + 1) 5 [.box [.p (.str v1.f0), .p (.int .i64 v1.f1), .p (.sl (v1.f2.map cTOut))]] ∧ s.F 5 = .bp (d + 1, 5, 0) 0 ∧ s.F 7 = .p (.int .i64 v17) ∧ True | .inr r => e = .ret ∧ (r = r0 → Q .ret s) := ⟨_, rfl⟩
          refine lp (ts := []) rfl hL21 I21 R21 ?_ ?_ ?_
          · rw [hI21]
            simp -implicitDefEqProofs only [go_sem, Nat.reduceEqDiff, Nat.reduceAdd, Nat.reduceLT, Nat.reduceLeDiff, Nat.reduceMul, Nat.reduceBEq, reduceIte, hv1, gi13, i13, gi16, i16, c18]
          · clear h hL21
            rintro v22 y s h i
            rw [hI21] at i
            obtain ⟨gi21, i21⟩ := i
            replace h : m_ref09_again_L2 v17 v1 (v22) = some y := h
            unfold m_ref09_again_L2 at h
            rcases ib h with ⟨c23, h⟩ | ⟨c23, h⟩
            · obtain ⟨v24, hv24, h⟩ := bs h
              replace hv24 := gis hv24
              obtain ⟨v25, hv25, h⟩ := bs h
              replace hv25 := gis hv25
              rcases ib h with ⟨c26, h⟩ | ⟨c26, h⟩
              · cases h
                simp -implicitDefEqProofs only [go_sem, Nat.reduceEqDiff, Nat.reduceAdd, Nat.reduceLT, Nat.reduceLeDiff, Nat.reduceMul, Nat.reduceBEq, reduceIte, hv1, gi13, i13, gi16, i16, c18, gi21, i21, c23, hv24, hv25, c26]
                rw [hR21]
                refine ⟨rfl, ?_⟩
                intro hr
                subst hr
                subst hQ
                simp -implicitDefEqProofs only [go_sem, Nat.reduceEqDiff, Nat.reduceAdd, Nat.reduceLT, Nat.reduceLeDiff, Nat.reduceMul, Nat.reduceBEq, reduceIte, hv1, gi13, i13, gi16, i16, c18, gi21, i21, c23, hv24, hv25, c26, Try.results35]
              · cases h
                simp -implicitDefEqProofs only [go_sem, Nat.reduceEqDiff, Nat.reduceAdd, Nat.reduceLT, Nat.reduceLeDiff, Nat.reduceMul, Nat.reduceBEq, reduceIte, hv1, gi13, i13, gi16, i16, c18, gi21, i21, c23, hv24, hv25, c26]
                rw [hI21]
                simp -implicitDefEqProofs only [go_sem, Nat.reduceEqDiff, Nat.reduceAdd, Nat.reduceLT, Nat.reduceLeDiff, Nat.reduceMul, Nat.reduceBEq, reduceIte, hv1, gi13, i13, gi16, i16, c18, gi21, i21, c23, hv24, hv25, c26]
            · cases h
              simp -implicitDefEqProofs only [go_sem, Nat.reduceEqDiff, Nat.reduceAdd, Nat.reduceLT, Nat.reduceLeDiff, Nat.reduceMul, Nat.reduceBEq, reduceIte, hv1, gi13, i13, gi16, i16, c18, gi21, i21, c23]
              rw [hR21]
              refine ⟨rfl, ?_⟩
              simp -implicitDefEqProofs only [go_sem, Nat.reduceEqDiff, Nat.reduceAdd, Nat.reduceLT, Nat.reduceLeDiff, Nat.reduceMul, Nat.reduceBEq, reduceIte, hv1, gi13, i13, gi16, i16, c18, gi21, i21, c23]
          · clear hL21 hI21
            intro e s hr21
            rw [hR21] at hr21
            clear hR21
            rcases z21 with _ | r
            · try dsimp only at h hr21
              obtain ⟨rfl, gi27, i27⟩ := hr21
              cases h
              simp -implicitDefEqProofs only [go_sem, Nat.reduceEqDiff, Nat.reduceAdd, Nat.reduceLT, Nat.reduceLeDiff, Nat.reduceMul, Nat.reduceBEq, reduceIte, hv1, gi13, i13, gi16, i16, c18, gi27, i27]
              rw [hI16]
              simp -implicitDefEqProofs only [go_sem, Nat.reduceEqDiff, Nat.reduceAdd, Nat.reduceLT, Nat.reduceLeDiff, Nat.reduceMul, Nat.reduceBEq, reduceIte, hv1, gi13, i13, gi16, i16, c18, gi27, i27]
            · try dsimp only at h hr21
              obtain ⟨rfl, hr21⟩ := hr21
              cases h
              try simp -implicitDefEqProofs only [go_sem, Nat.reduceEqDiff, Nat.reduceAdd, Nat.reduceLT, Nat.reduceLeDiff, Nat.reduceMul, Nat.reduceBEq, reduceIte]
              rw [hR16]
              exact ⟨rfl, hr21⟩
        · cases h
          simp -implicitDefEqProofs only [go_sem, Nat.reduceEqDiff, Nat.reduceAdd, Nat.reduceLT, Nat.reduceLeDiff, Nat.reduceMul, Nat.reduceBEq, reduceIte, hv1, gi13, i13, gi16, i16, c18]
          rw [hR16]
          refine ⟨rfl, ?_⟩
          simp -implicitDefEqProofs only [go_sem, Nat.reduceEqDiff, Nat.reduceAdd, Nat.reduceLT, Nat.reduceLeDiff, Nat.reduceMul, Nat.reduceBEq, reduceIte, hv1, gi13, i13, gi16, i16, c18]
      · clear hL16 hI16
        intro e s hr16
        rw [hR16] at hr16
        clear hR16
        rcases z16 with _ | r
        · try dsimp only at h hr16
          obtain ⟨rfl, gi28, i28⟩ := hr16
          cases h
          subst hQ
          simp -implicitDefEqProofs only [go_sem, Nat.reduceEqDiff, Nat.reduceAdd, Nat.reduceLT, Nat.reduceLeDiff, Nat.reduceMul, Nat.reduceBEq, reduceIte, hv1, gi13, i13, gi28, i28, Try.results35]
        · try dsimp only at h hr16
          obtain ⟨rfl, hr16⟩ := hr16
          cases h
          try simp -implicitDefEqProofs only [go_sem, Nat.reduceEqDiff, Nat.reduceAdd, Nat.reduceLT, Nat.reduceLeDiff, Nat.reduceMul, Nat.reduceBEq, reduceIte]
          exact hr16 rfl
    · try dsimp only at h hr4
      obtain ⟨rfl, hr4⟩ := hr4
      cases h
      try simp -implicitDefEqProofs only [go_sem, Nat.reduceEqDiff, Nat.reduceAdd, Nat.reduceLT, Nat.reduceLeDiff, Nat.reduceMul, Nat.reduceBEq, reduceIte]
      exact hr4 rfl
theorem m_ref09_Small_ev (a0 : TProto) (r0 : Bool) (h : m_ref09_Small a0 = some r0) (d : Nat) (G : Heap) : Tel Try.prog TB d 9 [.agg ((cTProto a0).map .p)] G (.p (.bool r0)) G := by
  unfold m_ref09_Small at h
  refine Tel.intro mix Try.func9 rfl (Nat.le_of_ble_eq_true rfl) {} (by kernel_rfl) (by kernel_rfl) ?_
  generalize hQ : callPost _ _ _ _ _ = Q
  simp -implicitDefEqProofs only [go_sem, Nat.reduceEqDiff, Nat.reduceAdd, Nat.reduceLT, Nat.reduceLeDiff, Nat.reduceMul, Nat.reduceBEq, reduceIte]
  obtain ⟨z5, hL5, h⟩ := bs h
  obtain ⟨I5, hI5⟩ : ∃ I : (Int × Int) → St → Prop, I = fun a s => match a with | (v6, v7) => s.G = fillKey (cut d G) (d + 1) 1 [.box [.p (.str a0.f0), .p (.sl (a0.f1.map cTState)), .p (.sl (a0.f2.map cTMove))]] ∧ s.F 1 = .bp (d + 1, 1, 0) 0 ∧ s.F 3 = .p (.int .i64 v6) ∧ s.F 4 = .p (.int .i64 v7) ∧ True := ⟨_, rfl⟩
  obtain ⟨R5, hR5⟩ : ∃ R : (Int) → GE → St → Prop, R = fun v8 e s => e = .exit 0 ∧ s.G = fillKey (cut d G) (d + 1) 1 [.box [.p (.str a0.f0), .p (.sl (a0.f1.map cTState)), .p (.sl (a0.f2.map cTMove))]] ∧ s.F 3 = .p (.int .i64 v8) ∧ True := ⟨_, rfl⟩
  refine lp (ts := []) rfl hL5 I5 R5 ?_ ?_ ?_
  · rw [hI5]
    simp -implicitDefEqProofs only [go_sem, Nat.reduceEqDiff, Nat.reduceAdd, Nat.reduceLT, Nat.reduceLeDiff, Nat.reduceMul, Nat.reduceBEq, reduceIte]
  · clear h hL5
    rintro ⟨v6, v7⟩ y s h i
    rw [hI5] at i
    obtain ⟨gi5, i5⟩ := i
    replace h : m_ref09_Small_L0 a0 (v6, v7) = some y := h
    unfold m_ref09_Small_L0 at h
    simp -implicitDefEqProofs only [go_sem, Nat.reduceEqDiff, Nat.reduceAdd, Nat.reduceLT, Nat.reduceLeDiff, Nat.reduceMul, Nat.reduceBEq, reduceIte, gi5, i5]
    obtain ⟨v9, hz, h⟩ := bs h
    obtain ⟨R10, hR10⟩ : ∃ R : St → Prop, R = fun s => s.G = fillKey (cut d G) (d + 1) 1 [.box [.p (.str a0.f0), .p (.sl (a0.f1.map cTState)), .p (.sl (a0.f2.map cTMove))]] ∧ s.F 1 = .bp (d + 1, 1, 0) 0 ∧ s.F 3 = .p (.int .i64 v6) ∧ s.F 4 = .p (.int .i64 v7) ∧ s.F 20 = .p (.bool v9) ∧ True := ⟨_, rfl⟩
    refine cutR R10 ?_ ?_
    · replace h := hz
      rcases ib h with ⟨c11, h⟩ | ⟨c11, h⟩
      · cases h
        simp -implicitDefEqProofs only [go_sem, Nat.reduceEqDiff, Nat.reduceAdd, Nat.reduceLT, Nat.reduceLeDiff, Nat.reduceMul, Nat.reduceBEq, reduceIte, gi5, i5, c11]
        rw [hR10]
        simp -implicitDefEqProofs only [go_sem, Nat.reduceEqDiff, Nat.reduceAdd, Nat.reduceLT, Nat.reduceLeDiff, Nat.reduceMul, Nat.reduceBEq, reduceIte, gi5, i5, c11]
      · cases h
        simp -implicitDefEqProofs only [go_sem, Nat.reduceEqDiff, Nat.reduceAdd, Nat.reduceLT, Nat.reduceLeDiff, Nat.reduceMul, Nat.reduceBEq, reduceIte, gi5, i5, c11]
        rw [hR10]
        simp -implicitDefEqProofs only [go_sem, Nat.reduceEqDiff, Nat.reduceAdd, Nat.reduceLT, Nat.reduceLeDiff, Nat.reduceMul, Nat.reduceBEq, reduceIte, gi5, i5, c11]
    · replace h := h; clear hz
      rintro s i
      rw [hR10] at i
      obtain ⟨gi12, i12⟩ := i
      clear hR10
      try dsimp only at h
      rcases ib h with ⟨c13, h⟩ | ⟨c13, h⟩
      · obtain ⟨v14, hv14, h⟩ := bs h
        replace hv14 := gis hv14
        cases h
        simp -implicitDefEqProofs only [go_sem, Nat.reduceEqDiff, Nat.reduceAdd, Nat.reduceLT, Nat.reduceLeDiff, Nat.reduceMul, Nat.reduceBEq, reduceIte, gi5, i5, gi12, i12, c13, hv14]
        rw [hI5]
        simp -implicitDefEqProofs only [go_sem, Nat.reduceEqDiff, Nat.reduceAdd, Nat.reduceLT, Nat.reduceLeDiff, Nat.reduceMul, Nat.reduceBEq, reduceIte, gi5, i5, gi12, i12, c13, hv14]
      · cases h
        simp -implicitDefEqProofs only [go_sem, Nat.reduceEqDiff, Nat.reduceAdd, Nat.reduceLT, Nat.reduceLeDiff, Nat.reduceMul, Nat.reduceBEq, reduceIte, gi5, i5, gi12, i12, c13]
        rw [hR5]
        refine ⟨rfl, ?_⟩
        simp -implicitDefEqProofs only [go_sem, Nat.reduceEqDiff, Nat.reduceAdd, Nat.reduceLT, Nat.reduceLeDiff, Nat.reduceMul, Nat.reduceBEq, reduceIte, gi5, i5, gi12, i12, c13]
  · clear hL5 hI5
    intro e s hr5
    rw [hR5] at hr5
    clear hR5
    revert h hr5
    generalize z5 = v8
    intro h hr5
    try dsimp only at h hr5
    obtain ⟨rfl, gi15, i15⟩ := hr5
    cases h
    subst hQ
    simp -implicitDefEqProofs only [go_sem, Nat.reduceEqDiff, Nat.reduceAdd, Nat.reduceLT, Nat.reduceLeDiff, Nat.reduceMul, Nat.reduceBEq, reduceIte, gi15, i15, Try.results9]
theorem m_ref09_Same_ev (a0 : List TOut) (a1 : List TOut) (r0 : Bool) (h : m_ref09_Same a0 a1 = some r0) (d : Nat) (G : Heap) : Tel Try.prog TB d 26 [.p (.sl (a0.map cTOut)), .p (.sl (a1.map cTOut))] G (.p (.bool r0)) G := by
  unfold m_ref09_Same at h
  refine Tel.intro mix Try.func26 rfl (Nat.le_of_ble_eq_true rfl) {} (by kernel_rfl) (by kernel_rfl) ?_
  generalize hQ : callPost _ _ _ _ _ = Q
  rcases ib h with ⟨c1, h⟩ | ⟨c1, h⟩
  · cases h
    subst hQ
    simp -implicitDefEqProofs only [go_sem, Nat.reduceEqDiff, Nat.reduceAdd, Nat.reduceLT, Nat.reduceLeDiff, Nat.reduceMul, Nat.reduceBEq, reduceIte, c1, Try.results26]
  · simp -implicitDefEqProofs only [go_sem, Nat.reduceEqDiff, Nat.reduceAdd, Nat.reduceLT, Nat.reduceLeDiff, Nat.reduceMul, Nat.reduceBEq, reduceIte, c1]
    obtain ⟨z4, hL4, h⟩ := bs h
    obtain ⟨I4, hI4⟩ : ∃ I : Int → St → Prop, I = fun v5 s => s.G = cut d G ∧ s.F 0 = .p (.sl (a0.map cTOut)) ∧ s.F 1 = .p (.sl (a1.map cTOut)) ∧ s.F 5 = .p (.int .i64 v5) ∧ True := ⟨_, rfl⟩
    obtain ⟨R4, hR4⟩ : ∃ R : ((Unit) ⊕ (Bool)) → GE → St → Prop, R = fun x e s => match x with | .inl _ => e = .exit 0 ∧ s.G = cut d G ∧ True | .inr r => e = .ret ∧ (r = r0 → Q .ret s) := ⟨_, rfl⟩
    refine lp (ts := []) rfl hL4 I4 R4 ?_ ?_ ?_
    · rw [hI4]
      simp -implicitDefEqProofs only [go_sem, Nat.reduceEqDiff, Nat.reduceAdd, Nat.reduceLT, Nat.reduceLeDiff, Nat.reduceMul, Nat.reduceBEq, reduceIte, c1]
    · clear h hL4
      rintro v5 y s h i
      rw [hI4] at i
      obtain ⟨gi4, i4⟩ := i
      replace h : m_ref09_Same_L0 a0 a1 (v5) = some y := h
      unfold m_ref09_Same_L0 at h
      rcases ib h with ⟨c6, h⟩ | ⟨c6, h⟩
      · obtain ⟨v7, hv7, h⟩ := bs h
        replace hv7 := gis hv7
        obtain ⟨v8, hv8, h⟩ := bs h
        replace hv8 := gis hv8
        simp -implicitDefEqProofs only [go_sem, Nat.reduceEqDiff, Nat.reduceAdd, Nat.reduceLT, Nat.reduceLeDiff, Nat.reduceMul, Nat.reduceBEq, reduceIte, c1, gi4, i4, c6, hv7, hv8]
        refine eqS_TOut v7 v8 ?_
        rcases ib h with ⟨c9, h⟩ | ⟨c9, h⟩
        · cases h
          simp -implicitDefEqProofs only [go_sem, Nat.reduceEqDiff, Nat.reduceAdd, Nat.reduceLT, Nat.reduceLeDiff, Nat.reduceMul, Nat.reduceBEq, reduceIte, c1, gi4, i4, c6, hv7, hv8, c9]
          rw [hR4]
          refine ⟨rfl, ?_⟩
          intro hr
          subst hr
          subst hQ
          simp -implicitDefEqProofs only [go_sem, Nat.reduceEqDiff, Nat.reduceAdd, Nat.reduceLT, Nat.reduceLeDiff, Nat.reduceMul, Nat.reduceBEq, reduceIte, c1, gi4, i4, c6, hv7, hv8, c9, Try.results26]
        · cases h
          simp -implicitDefEqProofs only [go_sem, Nat.reduceEqDiff, Nat.reduceAdd, Nat.reduceLT, Nat.reduceLeDiff, Nat.reduceMul, Nat.reduceBEq, reduceIte, c1, gi4, i4, c6, hv7, hv8, c9]
          rw [hI4]
          simp -implicitDefEqProofs only [go_sem, Nat.reduceEqDiff, Nat.reduceAdd, Nat.reduceLT, Nat.reduceLeDiff, Nat.reduceMul, Nat.reduceBEq, reduceIte, c1, gi4, i4, c6, hv7, hv8, c9]
      · cases h
        simp -implicitDefEqProofs only [go_sem, Nat.reduceEqDiff, Nat.reduceAdd, Nat.reduceLT, Nat.reduceLeDiff, Nat.reduceMul, Nat.reduceBEq, reduceIte, c1, gi4, i4, c6]
        rw [hR4]
        refine ⟨rfl, ?_⟩
        simp -implicitDefEqProofs only [go_sem, Nat.reduceEqDiff, Nat.reduceAdd, Nat.reduceLT, Nat.reduceLeDiff, Nat.reduceMul, Nat.reduceBEq, reduceIte, c1, gi4, i4, c6]
    · clear hL4 hI4
      intro e s hr4
      rw [hR4] at hr4
      clear hR4
      rcases z4 with _ | r
      · try dsimp only at h hr4
        obtain ⟨rfl, gi10, i10⟩ := hr4
        cases h
        subst hQ
        simp -implicitDefEqProofs only [go_sem, Nat.reduceEqDiff, Nat.reduceAdd, Nat.reduceLT, Nat.reduceLeDiff, Nat.reduceMul, Nat.reduceBEq, reduceIte, c1, gi10, i10, Try.results26]
      · try dsimp only at h hr4
        obtain ⟨rfl, hr4⟩ := hr4
        cases h
        try simp -implicitDefEqProofs only [go_sem, Nat.reduceEqDiff, Nat.reduceAdd, Nat.reduceLT, Nat.reduceLeDiff, Nat.reduceMul, Nat.reduceBEq, reduceIte]
        exact hr4 rfl
theorem m_ref09_Like_ev (a0 : TProto) (a1 : TProto) (r0 : Bool) (h : m_ref09_Like a0 a1 = some r0) (d : Nat) (G : Heap) : Tel Try.prog TB d 13 [.agg ((cTProto a0).map .p), .agg ((cTProto a1).map .p)] G (.p (.bool r0)) G := by
  unfold m_ref09_Like at h
  refine Tel.intro mix Try.func13 rfl (Nat.le_of_ble_eq_true rfl) {frzAt := fun t => t == 96} (by kernel_rfl) (by kernel_rfl) ?_
  generalize hQ : callPost _ _ _ _ _ = Q
  simp -implicitDefEqProofs only [go_sem, Nat.reduceEqDiff, Nat.reduceAdd, Nat.reduceLT, Nat.reduceLeDiff, Nat.reduceMul, Nat.reduceBEq, reduceIte]
  obtain ⟨v1, hz, h⟩ := bs h
  obtain ⟨R2, hR2⟩ : ∃ R : St → Prop, R = fun s => s.G = fillKey (fillKey (cut d G) (d + 1) 2 [.box [.p (.str a0.f0), .p (.sl (a0.f1.map cTState)), .p (.sl (a0.f2.map cTMove))]]) (d + 1) 3 [.box [.p (.str a1.f0), .p (.sl (a1.f1.map cTState)), .p (.sl (a1.f2.map cTMove))]] ∧ s.F 2 = .bp (d + 1, 2, 0) 0 ∧ s.F 3 = .bp (d + 1, 3, 0) 0 ∧ s.F 29 = .p (.bool v1) ∧ True := ⟨_, rfl⟩
  refine cutR R2 ?_ ?_
  · replace h := hz
    rcases ib h with ⟨c3, h⟩ | ⟨c3, h⟩
    · cases h
      simp -implicitDefEqProofs only [go_sem, Nat.reduceEqDiff, Nat.reduceAdd, Nat.reduceLT, Nat.reduceLeDiff, Nat.reduceMul, Nat.reduceBEq, reduceIte, c3]
      rw [hR2]
      simp -implicitDefEqProofs only [go_sem, Nat.reduceEqDiff, Nat.reduceAdd, Nat.reduceLT, Nat.reduceLeDiff, Nat.reduceMul, Nat.reduceBEq, reduceIte, c3]
    · rcases ib h with ⟨c4, h⟩ | ⟨c4, h⟩
      · cases h
        simp -implicitDefEqProofs only [go_sem, Nat.reduceEqDiff, Nat.reduceAdd, Nat.reduceLT, Nat.reduceLeDiff, Nat.reduceMul, Nat.reduceBEq, reduceIte, c3, c4]
        rw [hR2]
        simp -implicitDefEqProofs only [go_sem, Nat.reduceEqDiff, Nat.reduceAdd, Nat.reduceLT, Nat.reduceLeDiff, Nat.reduceMul, Nat.reduceBEq, reduceIte, c3, c4]
      · cases h
        simp -implicitDefEqProofs only [go_sem, Nat.reduceEqDiff, Nat.reduceAdd, Nat.reduceLT, Nat.reduceLeDiff, Nat.reduceMul, Nat.reduceBEq, reduceIte, c3, c4]
        rw [hR2]
        simp -implicitDefEqProofs only [go_sem, Nat.reduceEqDiff, Nat.reduceAdd, Nat.reduceLT, Nat.reduceLeDiff, Nat.reduceMul, Nat.reduceBEq, reduceIte, c3, c4]
  · replace h := h; clear hz
    rintro s i
    rw [hR2] at i
    obtain ⟨gi5, i5⟩ := i
    clear hR2
    try dsimp only at h
    rcases ib h with ⟨c6, h⟩ | ⟨c6, h⟩
    · cases h
      subst hQ
      simp -implicitDefEqProofs only [go_sem, Nat.reduceEqDiff, Nat.reduceAdd, Nat.reduceLT, Nat.reduceLeDiff, Nat.reduceMul, Nat.reduceBEq, reduceIte, gi5, i5, c6, Try.results13]
    · simp -implicitDefEqProofs only [go_sem, Nat.reduceEqDiff, Nat.reduceAdd, Nat.reduceLT, Nat.reduceLeDiff, Nat.reduceMul, Nat.reduceBEq, reduceIte, gi5, i5, c6]
      obtain ⟨z9, hL9, h⟩ := bs h
      obtain ⟨I9, hI9⟩ : ∃ I : Int → St → Prop, I = fun v10 s => s.G = fillKey (fillKey (cut d G) (d + 1) 2 [.box [.p (.str a0.f0), .p (.sl (a0.f1.map cTState)), .p (.sl (a0.f2.map cTMove))]]) (d + 1) 3 [.box [.p (.str a1.f0), .p (.sl (a1.f1.map cTState)), .p (.sl (a1.f2.map cTMove))]] ∧ s.F 2 = .bp (d + 1, 2, 0) 0 ∧ s.F 3 = .bp (d + 1, 3, 0) 0 ∧ s.F 5 = .p (.int .i64 v10) ∧ True := ⟨_, rfl⟩
      obtain ⟨R9, hR9⟩ : ∃ R : ((Unit) ⊕ (Bool)) → GE → St → Prop, R = fun x e s => match x with | .inl _ => e = .exit 0 ∧ s.G = fillKey (fillKey (cut d G) (d + 1) 2 [.box [.p (.str a0.f0), .p (.sl (a0.f1.map cTState)), .p (.sl (a0.f2.map cTMove))]]) (d + 1) 3 [.box [.p (.str a1.f0), .p (.sl (a1.f1.map cTState)), .p (.sl (a1.f2.map cTMove))]] ∧ s.F 2 = .bp (d + 1, 2, 0) 0 ∧ s.F 3 = .bp (d + 1, 3, 0) 0 ∧ True | .inr r => e = .ret ∧ (r = r0 → Q .ret s) := ⟨_, rfl⟩
      refine lp (ts := []) rfl hL9 I9 R9 ?_ ?_ ?_
      · rw [hI9]
        simp -implicitDefEqProofs only [go_sem, Nat.reduceEqDiff, Nat.reduceAdd, Nat.reduceLT, Nat.reduceLeDiff, Nat.reduceMul, Nat.reduceBEq, reduceIte, gi5, i5, c6]
      · clear h hL9
        rintro v10 y s h i
        rw [hI9] at i
        obtain ⟨gi9, i9⟩ := i
        replace h : m_ref09_Like_L0 a0 a1 (v10) = some y := h
        unfold m_ref09_Like_L0 at h
        rcases ib h with ⟨c11, h⟩ | ⟨c11, h⟩
        · obtain ⟨v12, hv12, h⟩ := bs h
          replace hv12 := gis hv12
          obtain ⟨v13, hv13, h⟩ := bs h
          replace hv13 := gis hv13
          simp -implicitDefEqProofs only [go_sem, Nat.reduceEqDiff, Nat.reduceAdd, Nat.reduceLT, Nat.reduceLeDiff, Nat.reduceMul, Nat.reduceBEq, reduceIte, gi5, i5, c6, gi9, i9, c11, hv12, hv13]
          refine eqS_TState v12 v13 ?_
          rcases ib h with ⟨c14, h⟩ | ⟨c14, h⟩
          · cases h
            simp -implicitDefEqProofs only [go_sem, Nat.reduceEqDiff, Nat.reduceAdd, Nat.reduceLT, Nat.reduceLeDiff, Nat.reduceMul, Nat.reduceBEq, reduceIte, gi5, i5, c6, gi9, i9, c11, hv12, hv13, c14]
            rw [hR9]
            refine ⟨rfl, ?_⟩
            intro hr
            subst hr
            subst hQ
            simp -implicitDefEqProofs only [go_sem, Nat.reduceEqDiff, Nat.reduceAdd, Nat.reduceLT, Nat.reduceLeDiff, Nat.reduceMul, Nat.reduceBEq, reduceIte, gi5, i5, c6, gi9, i9, c11, hv12, hv13, c14, Try.results13]
          · cases h
            simp -implicitDefEqProofs only [go_sem, Nat.reduceEqDiff, Nat.reduceAdd, Nat.reduceLT, Nat.reduceLeDiff, Nat.reduceMul, Nat.reduceBEq, reduceIte, gi5, i5, c6, gi9, i9, c11, hv12, hv13, c14]
            rw [hI9]
            simp -implicitDefEqProofs only [go_sem, Nat.reduceEqDiff, Nat.reduceAdd, Nat.reduceLT, Nat.reduceLeDiff, Nat.reduceMul, Nat.reduceBEq, reduceIte, gi5, i5, c6, gi9, i9, c11, hv12, hv13, c14]
        · cases h
          simp -implicitDefEqProofs only [go_sem, Nat.reduceEqDiff, Nat.reduceAdd, Nat.reduceLT, Nat.reduceLeDiff, Nat.reduceMul, Nat.reduceBEq, reduceIte, gi5, i5, c6, gi9, i9, c11]
          rw [hR9]
          refine ⟨rfl, ?_⟩
          simp -implicitDefEqProofs only [go_sem, Nat.reduceEqDiff, Nat.reduceAdd, Nat.reduceLT, Nat.reduceLeDiff, Nat.reduceMul, Nat.reduceBEq, reduceIte, gi5, i5, c6, gi9, i9, c11]
      · clear hL9 hI9
        intro e s hr9
        rw [hR9] at hr9
        clear hR9
        rcases z9 with _ | r
        · try dsimp only at h hr9
          obtain ⟨rfl, gi15, i15⟩ := hr9
          simp -implicitDefEqProofs only [go_sem, Nat.reduceEqDiff, Nat.reduceAdd, Nat.reduceLT, Nat.reduceLeDiff, Nat.reduceMul, Nat.reduceBEq, reduceIte, gi5, i5, c6, gi15, i15]
          obtain ⟨z18, hL18, h⟩ := bs h
          obtain ⟨I18, hI18⟩ : ∃ I : Int → St → Prop, I = fun v19 s => s.G = fillKey (fillKey (cut d G) (d + 1) 2 [.box [.p (.str a0.f0), .p (.sl (a0.f1.map cTState)), .p (.sl (a0.f2.map cTMove))]]) (d + 1) 3 [.box [.p (.str a1.f0), .p (.sl (a1.f1.map cTState)), .p (.sl (a1.f2.map cTMove))]] ∧ s.F 2 = .bp (d + 1, 2, 0) 0 ∧ s.F 3 = .bp (d + 1, 3, 0) 0 ∧ s.F 6 = .p (.int .i64 v19) ∧ True := ⟨_, rfl⟩
          obtain ⟨R18, hR18⟩ : ∃ R : ((Unit) ⊕ (Bool)) → GE → St → Prop, R = fun x e s => match x with | .inl _ => e = .exit 2 ∧ s.G = fillKey (fillKey (cut d G) (d + 1) 2 [.box [.p (.str a0.f0), .p (.sl (a0.f1.map cTState)), .p (.sl (a0.f2.map cTMove))]]) (d + 1) 3 [.box [.p (.str a1.f0), .p (.sl (a1.f1.map cTState)), .p (.sl (a1.f2.map cTMove))]] ∧ True | .inr r => e = .ret ∧ (r = r0 → Q .ret s) := ⟨_, rfl⟩
          refine lp (ts := []) rfl hL18 I18 R18 ?_ ?_ ?_
          · rw [hI18]
            simp -implicitDefEqProofs only [go_sem, Nat.reduceEqDiff, Nat.reduceAdd, Nat.reduceLT, Nat.reduceLeDiff, Nat.reduceMul, Nat.reduceBEq, reduceIte, gi5, i5, c6, gi15, i15]
          · clear h hL18
            rintro v19 y s h i
            rw [hI18] at i
            obtain ⟨gi18, i18⟩ := i
            replace h : m_ref09_Like_L1 a0 a1 (v19) = some y := h
            unfold m_ref09_Like_L1 at h
            rcases ib h with ⟨c20, h⟩ | ⟨c20, h⟩
            · obtain ⟨v21, hv21, h⟩ := bs h
              replace hv21 := gis hv21
              obtain ⟨v22, hv22, h⟩ := bs h
              replace hv22 := gis hv22
              simp -implicitDefEqProofs only [go_sem, Nat.reduceEqDiff, Nat.reduceAdd, Nat.reduceLT, Nat.reduceLeDiff, Nat.reduceMul, Nat.reduceBEq, reduceIte, gi5, i5, c6, gi15, i15, gi18, i18, c20, hv21, hv22]
              obtain ⟨v23, hz, h⟩ := bs h
              obtain ⟨R24, hR24⟩ : ∃ R : St → Prop, R = fun s => s.G = fillKey (fillKey (cut d G) (d + 1) 2 [.box [.p (.str a0.f0), .p (.sl (a0.f1.map cTState)), .p (.sl (a0.f2.map cTMove))]]) (d + 1) 3 [.box [.p (.str a1.f0), .p (.sl (a1.f1.map cTState)), .p (.sl (a1.f2.map cTMove))]] ∧ s.F 2 = .bp (d + 1, 2, 0) 0 ∧ s.F 3 = .bp (d + 1, 3, 0) 0 ∧ s.F 6 = .p (.int .i64 v19) ∧ s.F 98 = .p (.bool v23) ∧ True := ⟨_, rfl⟩
              refine cutR R24 ?_ ?_
              · replace h := hz
                rcases ib h with ⟨c25, h⟩ | ⟨c25, h⟩
                · cases h
                  simp -implicitDefEqProofs only [go_sem, Nat.reduceEqDiff, Nat.reduceAdd, Nat.reduceLT, Nat.reduceLeDiff, Nat.reduceMul, Nat.reduceBEq, reduceIte, gi5, i5, c6, gi15, i15, gi18, i18, c20, hv21, hv22, c25]
                  rw [hR24]
                  simp -implicitDefEqProofs only [go_sem, Nat.reduceEqDiff, Nat.reduceAdd, Nat.reduceLT, Nat.reduceLeDiff, Nat.reduceMul, Nat.reduceBEq, reduceIte, gi5, i5, c6, gi15, i15, gi18, i18, c20, hv21, hv22, c25]
                · rcases ib h with ⟨c26, h⟩ | ⟨c26, h⟩
                  · cases h
                    simp -implicitDefEqProofs only [go_sem, Nat.reduceEqDiff, Nat.reduceAdd, Nat.reduceLT, Nat.reduceLeDiff, Nat.reduceMul, Nat.reduceBEq, reduceIte, gi5, i5, c6, gi15, i15, gi18, i18, c20, hv21, hv22, c25, c26]
                    rw [hR24]
                    simp -implicitDefEqProofs only [go_sem, Nat.reduceEqDiff, Nat.reduceAdd, Nat.reduceLT, Nat.reduceLeDiff, Nat.reduceMul, Nat.reduceBEq, reduceIte, gi5, i5, c6, gi15, i15, gi18, i18, c20, hv21, hv22, c25, c26]
                  · obtain ⟨r27, hr27, h⟩ := bs h
                    simp -implicitDefEqProofs only [go_sem, Nat.reduceEqDiff, Nat.reduceAdd, Nat.reduceLT, Nat.reduceLeDiff, Nat.reduceMul, Nat.reduceBEq, reduceIte, gi5, i5, c6, gi15, i15, gi18, i18, c20, hv21, hv22, c25, c26]
                    refine call_frz (r' := .p (.bool r27)) (m_ref09_Same_ev v21.f2 v22.f2 r27 hr27 (d + 1) empty) (by simp -implicitDefEqProofs only [go_sem, Nat.reduceEqDiff, Nat.reduceAdd, Nat.reduceLT, Nat.reduceLeDiff, Nat.reduceMul, Nat.reduceBEq, reduceIte, gi5, i5, c6, gi15, i15, gi18, i18, c20, hv21, hv22, c25, c26]) rfl (by simp -implicitDefEqProofs only [go_sem, Nat.reduceEqDiff, Nat.reduceAdd, Nat.reduceLT, Nat.reduceLeDiff, Nat.reduceMul, Nat.reduceBEq, reduceIte]) (by simp -implicitDefEqProofs only [go_sem, Nat.reduceEqDiff, Nat.reduceAdd, Nat.reduceLT, Nat.reduceLeDiff, Nat.reduceMul, Nat.reduceBEq, reduceIte]) ?_ rfl rfl
                    cases h
                    simp -implicitDefEqProofs only [go_sem, Nat.reduceEqDiff, Nat.reduceAdd, Nat.reduceLT, Nat.reduceLeDiff, Nat.reduceMul, Nat.reduceBEq, reduceIte, gi5, i5, c6, gi15, i15, gi18, i18, c20, hv21, hv22, c25, c26]
                    rw [hR24]
                    simp -implicitDefEqProofs only [go_sem, Nat.reduceEqDiff, Nat.reduceAdd, Nat.reduceLT, Nat.reduceLeDiff, Nat.reduceMul, Nat.reduceBEq, reduceIte, gi5, i5, c6, gi15, i15, gi18, i18, c20, hv21, hv22, c25, c26]
              · replace h := h; clear hz
                rintro s i
                rw [hR24] at i
                obtain ⟨gi28, i28⟩ := i
                clear hR24
                try dsimp only at h
                rcases ib h with ⟨c29, h⟩ | ⟨c29, h⟩
                · cases h
                  simp -implicitDefEqProofs only [go_sem, Nat.reduceEqDiff, Nat.reduceAdd, Nat.reduceLT, Nat.reduceLeDiff, Nat.reduceMul, Nat.reduceBEq, reduceIte, gi5, i5, c6, gi15, i15, gi18, i18, c20, hv21, hv22, gi28, i28, c29]
                  rw [hR18]
                  refine ⟨rfl, ?_⟩
                  intro hr
                  subst hr
                  subst hQ
                  simp -implicitDefEqProofs only [go_sem, Nat.reduceEqDiff, Nat.reduceAdd, Nat.reduceLT, Nat.reduceLeDiff, Nat.reduceMul, Nat.reduceBEq, reduceIte, gi5, i5, c6, gi15, i15, gi18, i18, c20, hv21, hv22, gi28, i28, c29, Try.results13]
                · cases h
                  simp -implicitDefEqProofs only [go_sem, Nat.reduceEqDiff, Nat.reduceAdd, Nat.reduceLT, Nat.reduceLeDiff, Nat.reduceMul, Nat.reduceBEq, reduceIte, gi5, i5, c6, gi15, i15, gi18, i18, c20, hv21, hv22, gi28, i28, c29]
                  rw [hI18]
                  simp -implicitDefEqProofs only [go_sem, Nat.reduceEqDiff, Nat.reduceAdd, Nat.reduceLT, Nat.reduceLeDiff, Nat.reduceMul, Nat.reduceBEq, reduceIte, gi5, i5, c6, gi15, i15, gi18, i18, c20, hv21, hv22, gi28, i28, c29]
            · cases h
              simp -implicitDefEqProofs only [go_sem, Nat.reduceEqDiff, Nat.reduceAdd, Nat.reduceLT, Nat.reduceLeDiff, Nat.reduceMul, Nat.reduceBEq, reduceIte, gi5, i5, c6, gi15, i15, gi18, i18, c20]
              rw [hR18]
              refine ⟨rfl, ?_⟩
              simp -implicitDefEqProofs only [go_sem, Nat.reduceEqDiff, Nat.reduceAdd, Nat.reduceLT, Nat.reduceLeDiff, Nat.reduceMul, Nat.reduceBEq, reduceIte, gi5, i5, c6, gi15, i15, gi18, i18, c20]
          · clear hL18 hI18
            intro e s hr18
            rw [hR18] at hr18
            clear hR18
            rcases z18 with _ | r
            · try dsimp only at h hr18
              obtain ⟨rfl, gi30, i30⟩ := hr18
              cases h
              subst hQ
              simp -implicitDefEqProofs only [go_sem, Nat.reduceEqDiff, Nat.reduceAdd, Nat.reduceLT, Nat.reduceLeDiff, Nat.reduceMul, Nat.reduceBEq, reduceIte, gi5, i5, c6, gi15, i15, gi30, i30, Try.results13]
            · try dsimp only at h hr18
              obtain ⟨rfl, hr18⟩ := hr18
              cases h
              try simp -implicitDefEqProofs only [go_sem, Nat.reduceEqDiff, Nat.reduceAdd, Nat.reduceLT, Nat.reduceLeDiff, Nat.reduceMul, Nat.reduceBEq, reduceIte]
              exact hr18 rfl
        · try dsimp only at h hr9
          obtain ⟨rfl, hr9⟩ := hr9
          cases h
          try simp -implicitDefEqProofs only [go_sem, Nat.reduceEqDiff, Nat.reduceAdd, Nat.reduceLT, Nat.reduceLeDiff, Nat.reduceMul, Nat.reduceBEq, reduceIte]
          exact hr9 rfl
theorem m_ref09_Texts_ev (a0 : List ByteArray) (a1 : List ByteArray) (r0 : Bool) (h : m_ref09_Texts a0 a1 = some r0) (d : Nat) (G : Heap) : Tel Try.prog TB d 22 [.p (.sl (a0.map cstr)), .p (.sl (a1.map cstr))] G (.p (.bool r0)) G := by
  unfold m_ref09_Texts at h
  refine Tel.intro mix Try.func22 rfl (Nat.le_of_ble_eq_true rfl) {} (by kernel_rfl) (by kernel_rfl) ?_
  generalize hQ : callPost _ _ _ _ _ = Q
  rcases ib h with ⟨c1, h⟩ | ⟨c1, h⟩
  · cases h
    subst hQ
    simp -implicitDefEqProofs only [go_sem, Nat.reduceEqDiff, Nat.reduceAdd, Nat.reduceLT, Nat.reduceLeDiff, Nat.reduceMul, Nat.reduceBEq, reduceIte, c1, Try.results22]
  · simp -implicitDefEqProofs only [go_sem, Nat.reduceEqDiff, Nat.reduceAdd, Nat.reduceLT, Nat.reduceLeDiff, Nat.reduceMul, Nat.reduceBEq, reduceIte, c1]
    obtain ⟨z4, hL4, h⟩ := bs h
    obtain ⟨I4, hI4⟩ : ∃ I : Int → St → Prop, I = fun v5 s => s.G = cut d G ∧ s.F 0 = .p (.sl (a0.map cstr)) ∧ s.F 1 = .p (.sl (a1.map cstr)) ∧ s.F 5 = .p (.int .i64 v5) ∧ True := ⟨_, rfl⟩
    obtain ⟨R4, hR4⟩ : ∃ R : ((Unit) ⊕ (Bool)) → GE → St → Prop, R = fun x e s => match x with | .inl _ => e = .exit 0 ∧ s.G = cut d G ∧ True | .inr r => e = .ret ∧ (r = r0 → Q .ret s) := ⟨_, rfl⟩
    refine lp (ts := []) rfl hL4 I4 R4 ?_ ?_ ?_
    · rw [hI4]
      simp -implicitDefEqProofs only [go_sem, Nat.reduceEqDiff, Nat.reduceAdd, Nat.reduceLT, Nat.reduceLeDiff, Nat.reduceMul, Nat.reduceBEq, reduceIte, c1]
    · clear h hL4
      rintro v5 y s h i
      rw [hI4] at i
      obtain ⟨gi4, i4⟩ := i
      replace h : m_ref09_Texts_L0 a0 a1 (v5) = some y := h
      unfold m_ref09_Texts_L0 at h
      rcases ib h with ⟨c6, h⟩ | ⟨c6, h⟩
      · obtain ⟨v7, hv7, h⟩ := bs h
        replace hv7 := gis hv7
        obtain ⟨v8, hv8, h⟩ := bs h
        replace hv8 := gis hv8
        rcases ib h with ⟨c9, h⟩ | ⟨c9, h⟩
        · cases h
          simp -implicitDefEqProofs only [go_sem, Nat.reduceEqDiff, Nat.reduceAdd, Nat.reduceLT, Nat.reduceLeDiff, Nat.reduceMul, Nat.reduceBEq, reduceIte, c1, gi4, i4, c6, hv7, hv8, c9]
          rw [hR4]
          refine ⟨rfl, ?_⟩
          intro hr
          subst hr
          subst hQ
          simp -implicitDefEqProofs only [go_sem, Nat.reduceEqDiff, Nat.reduceAdd, Nat.reduceLT, Nat.reduceLeDiff, Nat.reduceMul, Nat.reduceBEq, reduceIte, c1, gi4, i4, c6, hv7, hv8, c9, Try.results22]
        · cases h
          simp -implicitDefEqProofs only [go_sem, Nat.reduceEqDiff, Nat.reduceAdd, Nat.reduceLT, Nat.reduceLeDiff, Nat.reduceMul, Nat.reduceBEq, reduceIte, c1, gi4, i4, c6, hv7, hv8, c9]
          rw [hI4]
          simp -implicitDefEqProofs only [go_sem, Nat.reduceEqDiff, Nat.reduceAdd, Nat.reduceLT, Nat.reduceLeDiff, Nat.reduceMul, Nat.reduceBEq, reduceIte, c1, gi4, i4, c6, hv7, hv8, c9]
      · cases h
        simp -implicitDefEqProofs only [go_sem, Nat.reduceEqDiff, Nat.reduceAdd, Nat.reduceLT, Nat.reduceLeDiff, Nat.reduceMul, Nat.reduceBEq, reduceIte, c1, gi4, i4, c6]
        rw [hR4]
        refine ⟨rfl, ?_⟩
        simp -implicitDefEqProofs only [go_sem, Nat.reduceEqDiff, Nat.reduceAdd, Nat.reduceLT, Nat.reduceLeDiff, Nat.reduceMul, Nat.reduceBEq, reduceIte, c1, gi4, i4, c6]
    · clear hL4 hI4
      intro e s hr4
      rw [hR4] at hr4
      clear hR4
      rcases z4 with _ | r
      · try dsimp only at h hr4
        obtain ⟨rfl, gi10, i10⟩ := hr4
        cases h
        subst hQ
        simp -implicitDefEqProofs only [go_sem, Nat.reduceEqDiff, Nat.reduceAdd, Nat.reduceLT, Nat.reduceLeDiff, Nat.reduceMul, Nat.reduceBEq, reduceIte, c1, gi10, i10, Try.results22]
      · try dsimp only at h hr4
        obtain ⟨rfl, hr4⟩ := hr4
        cases h
        try simp -implicitDefEqProofs only [go_sem, Nat.reduceEqDiff, Nat.reduceAdd, Nat.reduceLT, Nat.reduceLeDiff, Nat.reduceMul, Nat.reduceBEq, reduceIte]
        exact hr4 rfl
theorem m_ref09_Bit_ev (a0 : Int) (a1 : Int) (r0 : Bool) (h : m_ref09_Bit a0 a1 = some r0) (d : Nat) (G : Heap) : Tel Try.prog TB d 38 [.p (.int .u32 a0), .p (.int .i64 a1)] G (.p (.bool r0)) G := by
  unfold m_ref09_Bit at h
  refine Tel.intro mix Try.func38 rfl (Nat.le_of_ble_eq_true rfl) {} (by kernel_rfl) (by kernel_rfl) ?_
  generalize hQ : callPost _ _ _ _ _ = Q
  obtain ⟨_, c1, h⟩ := bs h
  replace c1 := rqs c1
  cases h
  subst hQ
  simp -implicitDefEqProofs only [go_sem, Nat.reduceEqDiff, Nat.reduceAdd, Nat.reduceLT, Nat.reduceLeDiff, Nat.reduceMul, Nat.reduceBEq, reduceIte, c1, Try.results38]
theorem m_ref09_Outs_ev (a0 : TProto) (a1 : Int) (a2 : ByteArray) (r0 : (List TOut)) (h : m_ref09_Outs a0 a1 a2 = some r0) (d : Nat) (G : Heap) : Tel Try.prog TB d 28 [.agg ((cTProto a0).map .p), .p (.int .i64 a1), .p (.str a2)] G (.p (.sl (r0.map cTOut))) G := by
  unfold m_ref09_Outs at h
  refine Tel.intro mix Try.func28 rfl (Nat.le_of_ble_eq_true rfl) {} (by kernel_rfl) (by kernel_rfl) ?_
  generalize hQ : callPost _ _ _ _ _ = Q
  simp -implicitDefEqProofs only [go_sem, Nat.reduceEqDiff, Nat.reduceAdd, Nat.reduceLT, Nat.reduceLeDiff, Nat.reduceMul, Nat.reduceBEq, reduceIte]
  obtain ⟨z3, hL3, h⟩ := bs h
  obtain ⟨I3, hI3⟩ : ∃ I : Int → St → Prop, I = fun v4 s => s.G = fillKey (cut d G) (d + 1) 3 [.box [.p (.str a0.f0), .p (.sl (a0.f1.map cTState)), .p (.sl (a0.f2.map cTMove))]] ∧ s.F 1 = .p (.int .i64 a1) ∧ s.F 2 = .p (.str a2) ∧ s.F 3 = .bp (d + 1, 3, 0) 0 ∧ s.F 7 = .p (.int .i64 v4) ∧ True := ⟨_, rfl⟩
  obtain ⟨R3, hR3⟩ : ∃ R : ((Unit) ⊕ ((List TOut))) → GE → St → Prop, R = fun x e s => match x with | .inl _ => e = .exit 0 ∧ s.G = fillKey (cut d G) (d + 1) 3 [.box [.p (.str a0.f0), .p (.sl (a0.f1.map cTState)), .p (.sl (a0.f2.map cTMove))]] ∧ True | .inr r => e = .ret ∧ (r = r0 → Q .ret s) := ⟨_, rfl⟩
  refine lp (ts := []) rfl hL3 I3 R3 ?_ ?_ ?_
  · rw [hI3]
    simp -implicitDefEqProofs only [go_sem, Nat.reduceEqDiff, Nat.reduceAdd, Nat.reduceLT, Nat.reduceLeDiff, Nat.reduceMul, Nat.reduceBEq, reduceIte]
  · clear h hL3
    rintro v4 y s h i
    rw [hI3] at i
    obtain ⟨gi3, i3⟩ := i
    replace h : m_ref09_Outs_L0 a0 a1 a2 (v4) = some y := h
    unfold m_ref09_Outs_L0 at h
    rcases ib h with ⟨c5, h⟩ | ⟨c5, h⟩
    · obtain ⟨v6, hv6, h⟩ := bs h
      replace hv6 := gis hv6
      simp -implicitDefEqProofs only [go_sem, Nat.reduceEqDiff, Nat.reduceAdd, Nat.reduceLT, Nat.reduceLeDiff, Nat.reduceMul, Nat.reduceBEq, reduceIte, gi3, i3, c5, hv6]
      obtain ⟨v7, hz, h⟩ := bs h
      obtain ⟨R8, hR8⟩ : ∃ R : St → Prop, R = fun s => s.G = fillKey (cut d G) (d + 1) 3 [.box [.p (.str a0.f0), .p (.sl (a0.f1.map cTState)), .p (.sl (a0.f2.map cTMove))]] ∧ s.F 1 = .p (.int .i64 a1) ∧ s.F 2 = .p (.str a2) ∧ s.F 3 = .bp (d + 1, 3, 0) 0 ∧ s.F 7 = .p (.int .i64 v4) ∧ s.F 32 = .p (.bool v7) ∧ True := ⟨_, rfl⟩
      refine cutR R8 ?_ ?_
      · replace h := hz
        rcases ib h with ⟨c9, h⟩ | ⟨c9, h⟩
        · cases h
          simp -implicitDefEqProofs only [go_sem, Nat.reduceEqDiff, Nat.reduceAdd, Nat.reduceLT, Nat.reduceLeDiff, Nat.reduceMul, Nat.reduceBEq, reduceIte, gi3, i3, c5, hv6, c9]
          rw [hR8]
          simp -implicitDefEqProofs only [go_sem, Nat.reduceEqDiff, Nat.reduceAdd, Nat.reduceLT, Nat.reduceLeDiff, Nat.reduceMul, Nat.reduceBEq, reduceIte, gi3, i3, c5, hv6, c9]
        · cases h
          simp -implicitDefEqProofs only [go_sem, Nat.reduceEqDiff, Nat.reduceAdd, Nat.reduceLT, Nat.reduceLeDiff, Nat.reduceMul, Nat.reduceBEq, reduceIte, gi3, i3, c5, hv6, c9]
          rw [hR8]
          simp -implicitDefEqProofs only [go_sem, Nat.reduceEqDiff, Nat.reduceAdd, Nat.reduceLT, Nat.reduceLeDiff, Nat.reduceMul, Nat.reduceBEq, reduceIte, gi3, i3, c5, hv6, c9]
      · replace h := h; clear hz
        rintro s i
        rw [hR8] at i
        obtain ⟨gi10, i10⟩ := i
        clear hR8
        try dsimp only at h
        rcases ib h with ⟨c11, h⟩ | ⟨c11, h⟩
        · cases h
          simp -implicitDefEqProofs only [go_sem, Nat.reduceEqDiff, Nat.reduceAdd, Nat.reduceLT, Nat.reduceLeDiff, Nat.reduceMul, Nat.reduceBEq, reduceIte, gi3, i3, c5, hv6, gi10, i10, c11]
          rw [hR3]
          refine ⟨rfl, ?_⟩
          intro hr
          subst hr
          subst hQ
          simp -implicitDefEqProofs only [go_sem, Nat.reduceEqDiff, Nat.reduceAdd, Nat.reduceLT, Nat.reduceLeDiff, Nat.reduceMul, Nat.reduceBEq, reduceIte, gi3, i3, c5, hv6, gi10, i10, c11, Try.results28]
        · cases h
          simp -implicitDefEqProofs only [go_sem, Nat.reduceEqDiff, Nat.reduceAdd, Nat.reduceLT, Nat.reduceLeDiff, Nat.reduceMul, Nat.reduceBEq, reduceIte, gi3, i3, c5, hv6, gi10, i10, c11]
          rw [hI3]
          simp -implicitDefEqProofs only [go_sem, Nat.reduceEqDiff, Nat.reduceAdd, Nat.reduceLT, Nat.reduceLeDiff, Nat.reduceMul, Nat.reduceBEq, reduceIte, gi3, i3, c5, hv6, gi10, i10, c11]
    · cases h
      simp -implicitDefEqProofs only [go_sem, Nat.reduceEqDiff, Nat.reduceAdd, Nat.reduceLT, Nat.reduceLeDiff, Nat.reduceMul, Nat.reduceBEq, reduceIte, gi3, i3, c5]
      rw [hR3]
      refine ⟨rfl, ?_⟩
      simp -implicitDefEqProofs only [go_sem, Nat.reduceEqDiff, Nat.reduceAdd, Nat.reduceLT, Nat.reduceLeDiff, Nat.reduceMul, Nat.reduceBEq, reduceIte, gi3, i3, c5]
  · clear hL3 hI3
    intro e s hr3
    rw [hR3] at hr3
    clear hR3
    rcases z3 with _ | r
    · try dsimp only at h hr3
      obtain ⟨rfl, gi12, i12⟩ := hr3
      cases h
      subst hQ
      simp -implicitDefEqProofs only [go_sem, Nat.reduceEqDiff, Nat.reduceAdd, Nat.reduceLT, Nat.reduceLeDiff, Nat.reduceMul, Nat.reduceBEq, reduceIte, gi12, i12, Try.results28]
    · try dsimp only at h hr3
      obtain ⟨rfl, hr3⟩ := hr3
      cases h
      try simp -implicitDefEqProofs only [go_sem, Nat.reduceEqDiff, Nat.reduceAdd, Nat.reduceLT, Nat.reduceLeDiff, Nat.reduceMul, Nat.reduceBEq, reduceIte]
      exact hr3 rfl
end Go.E
