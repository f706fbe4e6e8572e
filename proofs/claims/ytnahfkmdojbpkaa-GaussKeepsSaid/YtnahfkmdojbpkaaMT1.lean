import Derived.Test.YtnahfkmdojbpkaaMT0
set_option linter.all false
set_option maxRecDepth 100000
namespace Go.E
open Go Go.Proofs Go.Eng
variable {TB : Nat → Option Obj}
theorem m_ref03_times_ev (a0 : TTerm) (a1 : TRat) (r0 : TTerm × Int) (h : m_ref03_times a0 a1 = some r0) (d : Nat) (G : Heap) : Tel Try.prog TB d 46 [.agg ((cTTerm a0).map .p), .agg ((cTRat a1).map .p)] G (.tup [.agg ((cTTerm r0.1).map .p), .p (.int .i64 r0.2)]) (G) := by
  unfold m_ref03_times at h
  refine Tel.intro mix Try.func46 rfl (Nat.le_of_ble_eq_true rfl) {frzAt := fun t => t == 2 || t == 3 || t == 9} (by kernel_rfl) (by kernel_rfl) ?_
  generalize hQ : callPost _ _ _ _ _ = Q
  obtain ⟨r1, hr1, h⟩ := bs h
  simp -implicitDefEqProofs only [go_sem, Nat.reduceEqDiff, Nat.reduceAdd, Nat.reduceLT, Nat.reduceLeDiff, Nat.reduceMul, Nat.reduceBEq, reduceIte]
  refine call_frz (r' := .tup [.agg [.p (.sl (r1.1.f0.map cTRat)), .p (.int .i64 r1.1.f1.f0), .p (.int .i64 r1.1.f1.f1)], .p (.int .i64 r1.2)]) (m_ref02_Do_ev 2 a0 (⟨[], a1⟩ : TTerm) r1 hr1 (d + 1) empty) (by simp -implicitDefEqProofs only [go_sem, Nat.reduceEqDiff, Nat.reduceAdd, Nat.reduceLT, Nat.reduceLeDiff, Nat.reduceMul, Nat.reduceBEq, reduceIte]) rfl (by simp -implicitDefEqProofs only [go_sem, Nat.reduceEqDiff, Nat.reduceAdd, Nat.reduceLT, Nat.reduceLeDiff, Nat.reduceMul, Nat.reduceBEq, reduceIte]) (by simp -implicitDefEqProofs only [go_sem, Nat.reduceEqDiff, Nat.reduceAdd, Nat.reduceLT, Nat.reduceLeDiff, Nat.reduceMul, Nat.reduceBEq, reduceIte]) ?_ rfl rfl
  cases h
  subst hQ
  simp -implicitDefEqProofs only [go_sem, Nat.reduceEqDiff, Nat.reduceAdd, Nat.reduceLT, Nat.reduceLeDiff, Nat.reduceMul, Nat.reduceBEq, reduceIte, Try.results46]
theorem m_ref03_Less_ev (a0 : TTerm) (a1 : TTerm) (a2 : TRat) (r0 : TTerm × Int) (h : m_ref03_Less a0 a1 a2 = some r0) (d : Nat) (G : Heap) : Tel Try.prog TB d 47 [.agg ((cTTerm a0).map .p), .agg ((cTTerm a1).map .p), .agg ((cTRat a2).map .p)] G (.tup [.agg ((cTTerm r0.1).map .p), .p (.int .i64 r0.2)]) (G) := by
  unfold m_ref03_Less at h
  refine Tel.intro mix Try.func47 rfl (Nat.le_of_ble_eq_true rfl) {frzAt := fun t => t == 3 || t == 4 || t == 5 || t == 18 || t == 27} (by kernel_rfl) (by kernel_rfl) ?_
  generalize hQ : callPost _ _ _ _ _ = Q
  obtain ⟨r1, hr1, h⟩ := bs h
  simp -implicitDefEqProofs only [go_sem, Nat.reduceEqDiff, Nat.reduceAdd, Nat.reduceLT, Nat.reduceLeDiff, Nat.reduceMul, Nat.reduceBEq, reduceIte]
  refine call_frz (r' := .tup [.agg [.p (.sl (r1.1.f0.map cTRat)), .p (.int .i64 r1.1.f1.f0), .p (.int .i64 r1.1.f1.f1)], .p (.int .i64 r1.2)]) (m_ref03_times_ev a1 (⟨IntKind.wrap .i64 (0 - a2.f0), a2.f1⟩ : TRat) r1 hr1 (d + 1) empty) (by simp -implicitDefEqProofs only [go_sem, Nat.reduceEqDiff, Nat.reduceAdd, Nat.reduceLT, Nat.reduceLeDiff, Nat.reduceMul, Nat.reduceBEq, reduceIte]) rfl (by simp -implicitDefEqProofs only [go_sem, Nat.reduceEqDiff, Nat.reduceAdd, Nat.reduceLT, Nat.reduceLeDiff, Nat.reduceMul, Nat.reduceBEq, reduceIte]) (by simp -implicitDefEqProofs only [go_sem, Nat.reduceEqDiff, Nat.reduceAdd, Nat.reduceLT, Nat.reduceLeDiff, Nat.reduceMul, Nat.reduceBEq, reduceIte]) ?_ rfl rfl
  rcases ib h with ⟨c2, h⟩ | ⟨c2, h⟩
  · cases h
    subst hQ
    simp -implicitDefEqProofs only [go_sem, Nat.reduceEqDiff, Nat.reduceAdd, Nat.reduceLT, Nat.reduceLeDiff, Nat.reduceMul, Nat.reduceBEq, reduceIte, c2, Try.results47]
  · obtain ⟨r3, hr3, h⟩ := bs h
    simp -implicitDefEqProofs only [go_sem, Nat.reduceEqDiff, Nat.reduceAdd, Nat.reduceLT, Nat.reduceLeDiff, Nat.reduceMul, Nat.reduceBEq, reduceIte, c2]
    refine call_frz (r' := .tup [.agg [.p (.sl (r3.1.f0.map cTRat)), .p (.int .i64 r3.1.f1.f0), .p (.int .i64 r3.1.f1.f1)], .p (.int .i64 r3.2)]) (m_ref02_Do_ev 0 a0 r1.1 r3 hr3 (d + 1) empty) (by simp -implicitDefEqProofs only [go_sem, Nat.reduceEqDiff, Nat.reduceAdd, Nat.reduceLT, Nat.reduceLeDiff, Nat.reduceMul, Nat.reduceBEq, reduceIte, c2]) rfl (by simp -implicitDefEqProofs only [go_sem, Nat.reduceEqDiff, Nat.reduceAdd, Nat.reduceLT, Nat.reduceLeDiff, Nat.reduceMul, Nat.reduceBEq, reduceIte]) (by simp -implicitDefEqProofs only [go_sem, Nat.reduceEqDiff, Nat.reduceAdd, Nat.reduceLT, Nat.reduceLeDiff, Nat.reduceMul, Nat.reduceBEq, reduceIte]) ?_ rfl rfl
    cases h
    subst hQ
    simp -implicitDefEqProofs only [go_sem, Nat.reduceEqDiff, Nat.reduceAdd, Nat.reduceLT, Nat.reduceLeDiff, Nat.reduceMul, Nat.reduceBEq, reduceIte, c2, Try.results47]
theorem m_ref03_first_ev (a0 : List TTerm) (a1 : List Int) (a2 : Int) (r0 : Int) (h : m_ref03_first a0 a1 a2 = some r0) (d : Nat) (G : Heap) : Tel Try.prog TB d 27 [.p (.sl (a0.map cTTerm)), .p (.sl (a1.map cii64)), .p (.int .i64 a2)] G (.p (.int .i64 r0)) (G) := by
  unfold m_ref03_first at h
  refine Tel.intro mix Try.func27 rfl (Nat.le_of_ble_eq_true rfl) {frzAt := fun t => t == 25} (by kernel_rfl) (by kernel_rfl) ?_
  generalize hQ : callPost _ _ _ _ _ = Q
  simp -implicitDefEqProofs only [go_sem, Nat.reduceEqDiff, Nat.reduceAdd, Nat.reduceLT, Nat.reduceLeDiff, Nat.reduceMul, Nat.reduceBEq, reduceIte]
  obtain ⟨z3, hL3, h⟩ := bs h
  obtain ⟨I3, hI3⟩ : ∃ I : Int → St → Prop, I = fun v4 s => s.G = cut d G ∧ s.F 0 = .p (.sl (a0.map cTTerm)) ∧ s.F 1 = .p (.sl (a1.map cii64)) ∧ s.F 2 = .p (.int .i64 a2) ∧ s.F 7 = .p (.int .i64 v4) ∧ True := ⟨_, rfl⟩
  obtain ⟨R3, hR3⟩ : ∃ R : ((Unit) ⊕ (Int)) → GE → St → Prop, R = fun x e s => match x with | .inl _ => e = .exit 0 ∧ s.G = cut d G ∧ True | .inr r => e = .ret ∧ (r = r0 → Q .ret s) := ⟨_, rfl⟩
  refine lp (ts := []) rfl hL3 I3 R3 ?_ ?_ ?_
  · rw [hI3]
    simp -implicitDefEqProofs only [go_sem, Nat.reduceEqDiff, Nat.reduceAdd, Nat.reduceLT, Nat.reduceLeDiff, Nat.reduceMul, Nat.reduceBEq, reduceIte]
  · clear h hL3
    rintro v4 y s h i
    rw [hI3] at i
    obtain ⟨gi3, i3⟩ := i
    replace h : m_ref03_first_L0 a0 a1 a2 (v4) = some y := h
    unfold m_ref03_first_L0 at h
    rcases ib h with ⟨c5, h⟩ | ⟨c5, h⟩
    · obtain ⟨v6, hv6, h⟩ := bs h
      replace hv6 := gis hv6
      simp -implicitDefEqProofs only [go_sem, Nat.reduceEqDiff, Nat.reduceAdd, Nat.reduceLT, Nat.reduceLeDiff, Nat.reduceMul, Nat.reduceBEq, reduceIte, gi3, i3, c5, hv6]
      obtain ⟨v7, hz, h⟩ := bs h
      obtain ⟨R8, hR8⟩ : ∃ R : St → Prop, R = fun s => s.G = cut d G ∧ s.F 0 = .p (.sl (a0.map cTTerm)) ∧ s.F 1 = .p (.sl (a1.map cii64)) ∧ s.F 2 = .p (.int .i64 a2) ∧ s.F 7 = .p (.int .i64 v4) ∧ s.F 28 = .p (.bool v7) ∧ True := ⟨_, rfl⟩
      refine cutR R8 ?_ ?_
      · replace h := hz
        rcases ib h with ⟨c9, h⟩ | ⟨c9, h⟩
        · obtain ⟨v10, hv10, h⟩ := bs h
          replace hv10 := gis hv10
          obtain ⟨r11, hr11, h⟩ := bs h
          simp -implicitDefEqProofs only [go_sem, Nat.reduceEqDiff, Nat.reduceAdd, Nat.reduceLT, Nat.reduceLeDiff, Nat.reduceMul, Nat.reduceBEq, reduceIte, gi3, i3, c5, hv6, c9, hv10]
          refine call_frz (r' := .agg [.p (.int .i64 r11.f0), .p (.int .i64 r11.f1)]) (m_ref02_At_ev v10 a2 r11 hr11 (d + 1) empty) (by simp -implicitDefEqProofs only [go_sem, Nat.reduceEqDiff, Nat.reduceAdd, Nat.reduceLT, Nat.reduceLeDiff, Nat.reduceMul, Nat.reduceBEq, reduceIte, gi3, i3, c5, hv6, c9, hv10]) rfl (by simp -implicitDefEqProofs only [go_sem, Nat.reduceEqDiff, Nat.reduceAdd, Nat.reduceLT, Nat.reduceLeDiff, Nat.reduceMul, Nat.reduceBEq, reduceIte]) (by simp -implicitDefEqProofs only [go_sem, Nat.reduceEqDiff, Nat.reduceAdd, Nat.reduceLT, Nat.reduceLeDiff, Nat.reduceMul, Nat.reduceBEq, reduceIte]) ?_ rfl rfl
          cases h
          simp -implicitDefEqProofs only [go_sem, Nat.reduceEqDiff, Nat.reduceAdd, Nat.reduceLT, Nat.reduceLeDiff, Nat.reduceMul, Nat.reduceBEq, reduceIte, gi3, i3, c5, hv6, c9, hv10]
          rw [hR8]
          simp -implicitDefEqProofs only [go_sem, Nat.reduceEqDiff, Nat.reduceAdd, Nat.reduceLT, Nat.reduceLeDiff, Nat.reduceMul, Nat.reduceBEq, reduceIte, gi3, i3, c5, hv6, c9, hv10]
        · cases h
          simp -implicitDefEqProofs only [go_sem, Nat.reduceEqDiff, Nat.reduceAdd, Nat.reduceLT, Nat.reduceLeDiff, Nat.reduceMul, Nat.reduceBEq, reduceIte, gi3, i3, c5, hv6, c9]
          rw [hR8]
          simp -implicitDefEqProofs only [go_sem, Nat.reduceEqDiff, Nat.reduceAdd, Nat.reduceLT, Nat.reduceLeDiff, Nat.reduceMul, Nat.reduceBEq, reduceIte, gi3, i3, c5, hv6, c9]
      · replace h := h; clear hz
        rintro s i
        rw [hR8] at i
        obtain ⟨gi12, i12⟩ := i
        clear hR8
        try dsimp only at h
        rcases ib h with ⟨c13, h⟩ | ⟨c13, h⟩
        · cases h
          simp -implicitDefEqProofs only [go_sem, Nat.reduceEqDiff, Nat.reduceAdd, Nat.reduceLT, Nat.reduceLeDiff, Nat.reduceMul, Nat.reduceBEq, reduceIte, gi3, i3, c5, hv6, gi12, i12, c13]
          rw [hR3]
          refine ⟨rfl, ?_⟩
          intro hr
          subst hr
          subst hQ
          simp -implicitDefEqProofs only [go_sem, Nat.reduceEqDiff, Nat.reduceAdd, Nat.reduceLT, Nat.reduceLeDiff, Nat.reduceMul, Nat.reduceBEq, reduceIte, gi3, i3, c5, hv6, gi12, i12, c13, Try.results27]
        · cases h
          simp -implicitDefEqProofs only [go_sem, Nat.reduceEqDiff, Nat.reduceAdd, Nat.reduceLT, Nat.reduceLeDiff, Nat.reduceMul, Nat.reduceBEq, reduceIte, gi3, i3, c5, hv6, gi12, i12, c13]
          rw [hI3]
          simp -implicitDefEqProofs only [go_sem, Nat.reduceEqDiff, Nat.reduceAdd, Nat.reduceLT, Nat.reduceLeDiff, Nat.reduceMul, Nat.reduceBEq, reduceIte, gi3, i3, c5, hv6, gi12, i12, c13]
    · cases h
      simp -implicitDefEqProofs only [go_sem, Nat.reduceEqDiff, Nat.reduceAdd, Nat.reduceLT, Nat.reduceLeDiff, Nat.reduceMul, Nat.reduceBEq, reduceIte, gi3, i3, c5]
      rw [hR3]
      first | refine ⟨rfl, ?_⟩ | refine ⟨(), rfl, ?_⟩
      simp -implicitDefEqProofs only [go_sem, Nat.reduceEqDiff, Nat.reduceAdd, Nat.reduceLT, Nat.reduceLeDiff, Nat.reduceMul, Nat.reduceBEq, reduceIte, gi3, i3, c5]
  · clear hL3 hI3
    intro e s hr3
    rw [hR3] at hr3
    clear hR3
    rcases z3 with _ | r
    · try dsimp only at h hr3
      obtain ⟨rfl, gi14, i14⟩ := hr3
      cases h
      subst hQ
      simp -implicitDefEqProofs only [go_sem, Nat.reduceEqDiff, Nat.reduceAdd, Nat.reduceLT, Nat.reduceLeDiff, Nat.reduceMul, Nat.reduceBEq, reduceIte, gi14, i14, Try.results27]
    · try dsimp only at h hr3
      obtain ⟨rfl, hr3⟩ := hr3
      cases h
      try simp -implicitDefEqProofs only [go_sem, Nat.reduceEqDiff, Nat.reduceAdd, Nat.reduceLT, Nat.reduceLeDiff, Nat.reduceMul, Nat.reduceBEq, reduceIte]
      exact hr3 rfl
theorem m_ref03_take_ev (a0 : List TTerm) (a1 : Int) (a2 : Int) (r0 : (List TTerm) × Bool) (h : m_ref03_take a0 a1 a2 = some r0) (d : Nat) (G : Heap) : Tel Try.prog TB d 28 [.p (.sl (a0.map cTTerm)), .p (.int .i64 a1), .p (.int .i64 a2)] G (.tup [.p (.sl (r0.1.map cTTerm)), .p (.bool r0.2)]) (G) := by
  unfold m_ref03_take at h
  refine Tel.intro mix Try.func28 rfl (Nat.le_of_ble_eq_true rfl) {frzAt := fun t => t == 22 || t == 23 || t == 34 || t == 51 || t == 63, boxAt := fun t => if t = 8 then some 8 else if t = 10 then some 10 else none, clean := fun r => if r = 9 then [13, 14] else []} (by kernel_rfl) (by kernel_rfl) ?_
  generalize hQ : callPost _ _ _ _ _ = Q
  obtain ⟨v1, hv1, h⟩ := bs h
  replace hv1 := gis hv1
  obtain ⟨r2, hr2, h⟩ := bs h
  simp -implicitDefEqProofs only [go_sem, Nat.reduceEqDiff, Nat.reduceAdd, Nat.reduceLT, Nat.reduceLeDiff, Nat.reduceMul, Nat.reduceBEq, reduceIte, hv1]
  refine call_frz (r' := .agg [.p (.int .i64 r2.f0), .p (.int .i64 r2.f1)]) (m_ref02_At_ev v1 a2 r2 hr2 (d + 1) empty) (by simp -implicitDefEqProofs only [go_sem, Nat.reduceEqDiff, Nat.reduceAdd, Nat.reduceLT, Nat.reduceLeDiff, Nat.reduceMul, Nat.reduceBEq, reduceIte, hv1]) rfl (by simp -implicitDefEqProofs only [go_sem, Nat.reduceEqDiff, Nat.reduceAdd, Nat.reduceLT, Nat.reduceLeDiff, Nat.reduceMul, Nat.reduceBEq, reduceIte]) (by simp -implicitDefEqProofs only [go_sem, Nat.reduceEqDiff, Nat.reduceAdd, Nat.reduceLT, Nat.reduceLeDiff, Nat.reduceMul, Nat.reduceBEq, reduceIte]) ?_ rfl rfl
  obtain ⟨r3, hr3, h⟩ := bs h
  simp -implicitDefEqProofs only [go_sem, Nat.reduceEqDiff, Nat.reduceAdd, Nat.reduceLT, Nat.reduceLeDiff, Nat.reduceMul, Nat.reduceBEq, reduceIte, hv1]
  refine call_frz (r' := .tup [.agg [.p (.int .i64 r3.1.f0), .p (.int .i64 r3.1.f1)], .p (.int .i64 r3.2)]) (m_ref01_Do_ev 3 (⟨1, 1⟩ : TRat) r2 r3 hr3 (d + 1) empty) (by simp -implicitDefEqProofs only [go_sem, Nat.reduceEqDiff, Nat.reduceAdd, Nat.reduceLT, Nat.reduceLeDiff, Nat.reduceMul, Nat.reduceBEq, reduceIte, hv1]) rfl (by simp -implicitDefEqProofs only [go_sem, Nat.reduceEqDiff, Nat.reduceAdd, Nat.reduceLT, Nat.reduceLeDiff, Nat.reduceMul, Nat.reduceBEq, reduceIte]) (by simp -implicitDefEqProofs only [go_sem, Nat.reduceEqDiff, Nat.reduceAdd, Nat.reduceLT, Nat.reduceLeDiff, Nat.reduceMul, Nat.reduceBEq, reduceIte]) ?_ rfl rfl
  rcases ib h with ⟨c4, h⟩ | ⟨c4, h⟩
  · cases h
    subst hQ
    simp -implicitDefEqProofs only [go_sem, Nat.reduceEqDiff, Nat.reduceAdd, Nat.reduceLT, Nat.reduceLeDiff, Nat.reduceMul, Nat.reduceBEq, reduceIte, hv1, c4, Try.results28]
  · obtain ⟨r5, hr5, h⟩ := bs h
    simp -implicitDefEqProofs only [go_sem, Nat.reduceEqDiff, Nat.reduceAdd, Nat.reduceLT, Nat.reduceLeDiff, Nat.reduceMul, Nat.reduceBEq, reduceIte, hv1, c4]
    refine call_frz (r' := .tup [.agg [.p (.sl (r5.1.f0.map cTRat)), .p (.int .i64 r5.1.f1.f0), .p (.int .i64 r5.1.f1.f1)], .p (.int .i64 r5.2)]) (m_ref03_times_ev v1 r3.1 r5 hr5 (d + 1) empty) (by simp -implicitDefEqProofs only [go_sem, Nat.reduceEqDiff, Nat.reduceAdd, Nat.reduceLT, Nat.reduceLeDiff, Nat.reduceMul, Nat.reduceBEq, reduceIte, hv1, c4]) rfl (by simp -implicitDefEqProofs only [go_sem, Nat.reduceEqDiff, Nat.reduceAdd, Nat.reduceLT, Nat.reduceLeDiff, Nat.reduceMul, Nat.reduceBEq, reduceIte]) (by simp -implicitDefEqProofs only [go_sem, Nat.reduceEqDiff, Nat.reduceAdd, Nat.reduceLT, Nat.reduceLeDiff, Nat.reduceMul, Nat.reduceBEq, reduceIte]) ?_ rfl rfl
    rcases ib h with ⟨c6, h⟩ | ⟨c6, h⟩
    · cases h
      subst hQ
      simp -implicitDefEqProofs only [go_sem, Nat.reduceEqDiff, Nat.reduceAdd, Nat.reduceLT, Nat.reduceLeDiff, Nat.reduceMul, Nat.reduceBEq, reduceIte, hv1, c4, c6, Try.results28]
    · simp -implicitDefEqProofs only [go_sem, Nat.reduceEqDiff, Nat.reduceAdd, Nat.reduceLT, Nat.reduceLeDiff, Nat.reduceMul, Nat.reduceBEq, reduceIte, hv1, c4, c6]
      obtain ⟨z13, hL13, h⟩ := bs h
      obtain ⟨I13, hI13⟩ : ∃ I : ((List TTerm) × Int) → St → Prop, I = fun a s => match a with | (v14, v16) => ∃ o15, s.G = fillKey (fillKey (fillKey (cut d G) (d + 1) 8 [.box [.p (.int .i64 r3.1.f0), .p (.int .i64 r3.1.f1)]]) (d + 1) 10 [.box [.p (.sl (r5.1.f0.map cTRat)), .p (.int .i64 r5.1.f1.f0), .p (.int .i64 r5.1.f1.f1)]]) (d + 1) 71 (growO o15 71 3 (v14.map cTTerm)) ∧ growOK o15 [71] ∧ s.F 0 = .p (.sl (a0.map cTTerm)) ∧ s.F 1 = .p (.int .i64 a1) ∧ s.F 2 = .p (.int .i64 a2) ∧ s.F 10 = .bp (d + 1, 10, 0) 0 ∧ s.F 11 = growV o15 (d + 1) (v14.map cTTerm) ∧ s.F 12 = .p (.int .i64 v16) ∧ True := ⟨_, rfl⟩
      obtain ⟨R13, hR13⟩ : ∃ R : (((List TTerm)) ⊕ ((List TTerm) × Bool)) → GE → St → Prop, R = fun x e s => match x with | .inl v17 => e = .exit 0 ∧ (∃ o18, s.G = fillKey (fillKey (fillKey (cut d G) (d + 1) 8 [.box [.p (.int .i64 r3.1.f0), .p (.int .i64 r3.1.f1)]]) (d + 1) 10 [.box [.p (.sl (r5.1.f0.map cTRat)), .p (.int .i64 r5.1.f1.f0), .p (.int .i64 r5.1.f1.f1)]]) (d + 1) 71 (growO o18 71 3 (v17.map cTTerm)) ∧ growOK o18 [71] ∧ s.F 11 = growV o18 (d + 1) (v17.map cTTerm) ∧ True) | .inr r => e = .ret ∧ (r = r0 → Q .ret s) := ⟨_, rfl⟩
      refine lp (ts := [13, 14]) rfl hL13 I13 R13 ?_ ?_ ?_
      · rw [hI13]
        refine ⟨none, ?_⟩
        simp -implicitDefEqProofs only [go_sem, Nat.reduceEqDiff, Nat.reduceAdd, Nat.reduceLT, Nat.reduceLeDiff, Nat.reduceMul, Nat.reduceBEq, reduceIte, hv1, c4, c6]
      · clear h hL13
        rintro ⟨v14, v16⟩ y s h i
        rw [hI13] at i
        obtain ⟨o15, gi13, ko15, i13⟩ := i
        replace h : m_ref03_take_L0 a0 a2 a1 r5 (v14, v16) = some y := h
        unfold m_ref03_take_L0 at h
        rcases ib h with ⟨c19, h⟩ | ⟨c19, h⟩
        · obtain ⟨v20, hv20, h⟩ := bs h
          replace hv20 := gis hv20
          obtain ⟨r21, hr21, h⟩ := bs h
          simp -implicitDefEqProofs only [go_sem, Nat.reduceEqDiff, Nat.reduceAdd, Nat.reduceLT, Nat.reduceLeDiff, Nat.reduceMul, Nat.reduceBEq, reduceIte, hv1, c4, c6, gi13, ko15, i13, c19, hv20]
          refine call_frz (r' := .agg [.p (.int .i64 r21.f0), .p (.int .i64 r21.f1)]) (m_ref02_At_ev v20 a2 r21 hr21 (d + 1) empty) (by simp -implicitDefEqProofs only [go_sem, Nat.reduceEqDiff, Nat.reduceAdd, Nat.reduceLT, Nat.reduceLeDiff, Nat.reduceMul, Nat.reduceBEq, reduceIte, hv1, c4, c6, gi13, ko15, i13, c19, hv20]) rfl (by simp -implicitDefEqProofs only [go_sem, Nat.reduceEqDiff, Nat.reduceAdd, Nat.reduceLT, Nat.reduceLeDiff, Nat.reduceMul, Nat.reduceBEq, reduceIte]) (by simp -implicitDefEqProofs only [go_sem, Nat.reduceEqDiff, Nat.reduceAdd, Nat.reduceLT, Nat.reduceLeDiff, Nat.reduceMul, Nat.reduceBEq, reduceIte]) ?_ rfl rfl
          simp -implicitDefEqProofs only [go_sem, Nat.reduceEqDiff, Nat.reduceAdd, Nat.reduceLT, Nat.reduceLeDiff, Nat.reduceMul, Nat.reduceBEq, reduceIte, hv1, c4, c6, gi13, ko15, i13, c19, hv20]
          obtain ⟨z25, hz, hk25⟩ := bs h
          obtain ⟨R25, hR25⟩ : ∃ R : St → Prop, R = fun s => ∃ v22 v23 v24, z25 = .inl (v22, v23, v24) ∧ s.G = fillKey (fillKey (fillKey (fillKey (fillKey (cut d G) (d + 1) 8 [.box [.p (.int .i64 r3.1.f0), .p (.int .i64 r3.1.f1)]]) (d + 1) 10 [.box [.p (.sl (r5.1.f0.map cTRat)), .p (.int .i64 r5.1.f1.f0), .p (.int .i64 r5.1.f1.f1)]]) (d + 1) 13 [.box [.p (.sl (v22.map cTRat)), .p (.int .i64 v23), .p (.int .i64 v24)]]) (d + 1) 14 [.box [.p (.int .i64 r21.f0), .p (.int .i64 r21.f1)]]) (d + 1) 71 (growO o15 71 3 (v14.map cTTerm)) ∧ s.F 0 = .p (.sl (a0.map cTTerm)) ∧ s.F 1 = .p (.int .i64 a1) ∧ s.F 2 = .p (.int .i64 a2) ∧ s.F 10 = .bp (d + 1, 10, 0) 0 ∧ s.F 11 = growV o15 (d + 1) (v14.map cTTerm) ∧ s.F 12 = .p (.int .i64 v16) ∧ s.F 13 = .bp (d + 1, 13, 0) 0 ∧ True := ⟨_, rfl⟩
          refine cutG R25 ?_ ?_
          · replace h := hz
            rcases ib h with ⟨c26, h⟩ | ⟨c26, h⟩
            · cases h
              simp -implicitDefEqProofs only [go_sem, Nat.reduceEqDiff, Nat.reduceAdd, Nat.reduceLT, Nat.reduceLeDiff, Nat.reduceMul, Nat.reduceBEq, reduceIte, hv1, c4, c6, gi13, ko15, i13, c19, hv20, c26]
              rw [hR25]
              refine ⟨r5.1.f0, r5.1.f1.f0, r5.1.f1.f1, rfl, ?_⟩
              simp -implicitDefEqProofs only [go_sem, Nat.reduceEqDiff, Nat.reduceAdd, Nat.reduceLT, Nat.reduceLeDiff, Nat.reduceMul, Nat.reduceBEq, reduceIte, hv1, c4, c6, gi13, ko15, i13, c19, hv20, c26]
            · simp -implicitDefEqProofs only [go_sem, Nat.reduceEqDiff, Nat.reduceAdd, Nat.reduceLT, Nat.reduceLeDiff, Nat.reduceMul, Nat.reduceBEq, reduceIte, hv1, c4, c6, gi13, ko15, i13, c19, hv20, c26]
              obtain ⟨z30, hz, hk30⟩ := bs h
              obtain ⟨R30, hR30⟩ : ∃ R : St → Prop, R = fun s => ∃ v27 v28 v29, z30 = .inl (v27, v28, v29) ∧ s.G = fillKey (fillKey (fillKey (fillKey (fillKey (cut d G) (d + 1) 8 [.box [.p (.int .i64 r3.1.f0), .p (.int .i64 r3.1.f1)]]) (d + 1) 10 [.box [.p (.sl (r5.1.f0.map cTRat)), .p (.int .i64 r5.1.f1.f0), .p (.int .i64 r5.1.f1.f1)]]) (d + 1) 13 [.box [.p (.sl (v27.map cTRat)), .p (.int .i64 v28), .p (.int .i64 v29)]]) (d + 1) 14 [.box [.p (.int .i64 r21.f0), .p (.int .i64 r21.f1)]]) (d + 1) 71 (growO o15 71 3 (v14.map cTTerm)) ∧ s.F 0 = .p (.sl (a0.map cTTerm)) ∧ s.F 1 = .p (.int .i64 a1) ∧ s.F 2 = .p (.int .i64 a2) ∧ s.F 10 = .bp (d + 1, 10, 0) 0 ∧ s.F 11 = growV o15 (d + 1) (v14.map cTTerm) ∧ s.F 12 = .p (.int .i64 v16) ∧ s.F 13 = .bp (d + 1, 13, 0) 0 ∧ True := ⟨_, rfl⟩
              refine cutG R30 ?_ ?_
              · replace h := hz
                rcases ib h with ⟨c31, h⟩ | ⟨c31, h⟩
                · obtain ⟨r32, hr32, h⟩ := bs h
                  simp -implicitDefEqProofs only [go_sem, Nat.reduceEqDiff, Nat.reduceAdd, Nat.reduceLT, Nat.reduceLeDiff, Nat.reduceMul, Nat.reduceBEq, reduceIte, hv1, c4, c6, gi13, ko15, i13, c19, hv20, c26, c31]
                  refine call_frz (r' := .tup [.agg [.p (.sl (r32.1.f0.map cTRat)), .p (.int .i64 r32.1.f1.f0), .p (.int .i64 r32.1.f1.f1)], .p (.int .i64 r32.2)]) (m_ref03_Less_ev v20 r5.1 r21 r32 hr32 (d + 1) empty) (by simp -implicitDefEqProofs only [go_sem, Nat.reduceEqDiff, Nat.reduceAdd, Nat.reduceLT, Nat.reduceLeDiff, Nat.reduceMul, Nat.reduceBEq, reduceIte, hv1, c4, c6, gi13, ko15, i13, c19, hv20, c26, c31]) rfl (by simp -implicitDefEqProofs only [go_sem, Nat.reduceEqDiff, Nat.reduceAdd, Nat.reduceLT, Nat.reduceLeDiff, Nat.reduceMul, Nat.reduceBEq, reduceIte]) (by simp -implicitDefEqProofs only [go_sem, Nat.reduceEqDiff, Nat.reduceAdd, Nat.reduceLT, Nat.reduceLeDiff, Nat.reduceMul, Nat.reduceBEq, reduceIte]) ?_ rfl rfl
                  rcases ib h with ⟨c33, h⟩ | ⟨c33, h⟩
                  · obtain ⟨y30, hy30, hz30⟩ := bs h
                    replace hz30 := Option.some.inj hz30
                    subst hz30
                    replace hk30 := hk30
                    dsimp only at hk30
                    replace hk30 := Option.some.inj hk30
                    subst hk30
                    have h := hy30
                    obtain ⟨y25, hy25, hz25⟩ := bs h
                    replace hz25 := Option.some.inj hz25
                    subst hz25
                    replace hk25 := hk25
                    dsimp only at hk25
                    replace hk25 := Option.some.inj hk25
                    subst hk25
                    have h := hy25
                    cases h
                    simp -implicitDefEqProofs only [go_sem, Nat.reduceEqDiff, Nat.reduceAdd, Nat.reduceLT, Nat.reduceLeDiff, Nat.reduceMul, Nat.reduceBEq, reduceIte, hv1, c4, c6, gi13, ko15, i13, c19, hv20, c26, c31, c33]
                    rw [hR13]
                    refine ⟨rfl, ?_⟩
                    intro hr
                    subst hr
                    subst hQ
                    simp -implicitDefEqProofs only [go_sem, Nat.reduceEqDiff, Nat.reduceAdd, Nat.reduceLT, Nat.reduceLeDiff, Nat.reduceMul, Nat.reduceBEq, reduceIte, hv1, c4, c6, gi13, ko15, i13, c19, hv20, c26, c31, c33, Try.results28]
                  · cases h
                    simp -implicitDefEqProofs only [go_sem, Nat.reduceEqDiff, Nat.reduceAdd, Nat.reduceLT, Nat.reduceLeDiff, Nat.reduceMul, Nat.reduceBEq, reduceIte, hv1, c4, c6, gi13, ko15, i13, c19, hv20, c26, c31, c33]
                    rw [hR30]
                    refine ⟨r32.1.f0, r32.1.f1.f0, r32.1.f1.f1, rfl, ?_⟩
                    simp -implicitDefEqProofs only [go_sem, Nat.reduceEqDiff, Nat.reduceAdd, Nat.reduceLT, Nat.reduceLeDiff, Nat.reduceMul, Nat.reduceBEq, reduceIte, hv1, c4, c6, gi13, ko15, i13, c19, hv20, c26, c31, c33]
                · cases h
                  simp -implicitDefEqProofs only [go_sem, Nat.reduceEqDiff, Nat.reduceAdd, Nat.reduceLT, Nat.reduceLeDiff, Nat.reduceMul, Nat.reduceBEq, reduceIte, hv1, c4, c6, gi13, ko15, i13, c19, hv20, c26, c31]
                  rw [hR30]
                  refine ⟨v20.f0, v20.f1.f0, v20.f1.f1, rfl, ?_⟩
                  simp -implicitDefEqProofs only [go_sem, Nat.reduceEqDiff, Nat.reduceAdd, Nat.reduceLT, Nat.reduceLeDiff, Nat.reduceMul, Nat.reduceBEq, reduceIte, hv1, c4, c6, gi13, ko15, i13, c19, hv20, c26, c31]
              · rintro s i
                rw [hR30] at i
                obtain ⟨v27, v28, v29, rfl, gi34, i34⟩ := i
                clear hR30 hz
                replace h := hk30; clear hk30
                try dsimp only at h
                cases h
                simp -implicitDefEqProofs only [go_sem, Nat.reduceEqDiff, Nat.reduceAdd, Nat.reduceLT, Nat.reduceLeDiff, Nat.reduceMul, Nat.reduceBEq, reduceIte, hv1, c4, c6, gi13, ko15, i13, c19, hv20, c26, gi34, i34]
                rw [hR25]
                refine ⟨v27, v28, v29, rfl, ?_⟩
                simp -implicitDefEqProofs only [go_sem, Nat.reduceEqDiff, Nat.reduceAdd, Nat.reduceLT, Nat.reduceLeDiff, Nat.reduceMul, Nat.reduceBEq, reduceIte, hv1, c4, c6, gi13, ko15, i13, c19, hv20, c26, gi34, i34]
          · rintro s i
            rw [hR25] at i
            obtain ⟨v22, v23, v24, rfl, gi35, i35⟩ := i
            clear hR25 hz
            replace h := hk25; clear hk25
            try dsimp only at h
            obtain ⟨_, c36, h⟩ := bs h
            replace c36 := rqs c36
            simp -implicitDefEqProofs only [go_sem, Nat.reduceEqDiff, Nat.reduceAdd, Nat.reduceLT, Nat.reduceLeDiff, Nat.reduceMul, Nat.reduceBEq, reduceIte, hv1, c4, c6, gi13, ko15, i13, c19, hv20, gi35, i35, c36]
            refine append_G (o := o15) (ts := [71]) (es := (v14 : List TTerm).map cTTerm) (xs := ([(⟨v22, (⟨v23, v24⟩ : TRat)⟩ : TTerm)] : List TTerm).map cTTerm) (ho := growOK.sub ko15 (by decide)) (hG := by simp -implicitDefEqProofs only [go_sem, Nat.reduceEqDiff, Nat.reduceAdd, Nat.reduceLT, Nat.reduceLeDiff, Nat.reduceMul, Nat.reduceBEq, reduceIte, hv1, c4, c6, gi13, ko15, i13, c19, hv20, gi35, i35, c36]) (hj := by simp -implicitDefEqProofs only [go_sem, Nat.reduceEqDiff, Nat.reduceAdd, Nat.reduceLT, Nat.reduceLeDiff, Nat.reduceMul, Nat.reduceBEq, reduceIte]) (he := el22) (hx := by simp -implicitDefEqProofs only [go_sem, Nat.reduceEqDiff, Nat.reduceAdd, Nat.reduceLT, Nat.reduceLeDiff, Nat.reduceMul, Nat.reduceBEq, reduceIte, hv1, c4, c6, gi13, ko15, i13, c19, hv20, gi35, i35, c36]) (h1 := by simp -implicitDefEqProofs only [go_sem, Nat.reduceEqDiff, Nat.reduceAdd, Nat.reduceLT, Nat.reduceLeDiff, Nat.reduceMul, Nat.reduceBEq, reduceIte]) (h2 := by simp -implicitDefEqProofs only [go_sem, Nat.reduceEqDiff, Nat.reduceAdd, Nat.reduceLT, Nat.reduceLeDiff, Nat.reduceMul, Nat.reduceBEq, reduceIte]) (ha := rfl) (hra := rfl) (hb := by simpa using c36) (hbb := by decide) ?_
            intro o37 ko37
            cases h
            simp -implicitDefEqProofs only [go_sem, Nat.reduceEqDiff, Nat.reduceAdd, Nat.reduceLT, Nat.reduceLeDiff, Nat.reduceMul, Nat.reduceBEq, reduceIte, hv1, c4, c6, gi13, ko15, i13, c19, hv20, gi35, i35, c36, ko37]
            rw [hI13]
            refine ⟨o37, ?_⟩
            simp -implicitDefEqProofs only [go_sem, Nat.reduceEqDiff, Nat.reduceAdd, Nat.reduceLT, Nat.reduceLeDiff, Nat.reduceMul, Nat.reduceBEq, reduceIte, hv1, c4, c6, gi13, ko15, i13, c19, hv20, gi35, i35, c36, ko37, poison_grow (d := d + 1) (ts := [13, 14]) ko37 (by decide), poison_grow (d := d + 1) (ts := [13, 14]) ko15 (by decide)]
        · cases h
          simp -implicitDefEqProofs only [go_sem, Nat.reduceEqDiff, Nat.reduceAdd, Nat.reduceLT, Nat.reduceLeDiff, Nat.reduceMul, Nat.reduceBEq, reduceIte, hv1, c4, c6, gi13, ko15, i13, c19]
          rw [hR13]
          first | refine ⟨rfl, o15, ?_⟩ | refine ⟨(), rfl, o15, ?_⟩
          simp -implicitDefEqProofs only [go_sem, Nat.reduceEqDiff, Nat.reduceAdd, Nat.reduceLT, Nat.reduceLeDiff, Nat.reduceMul, Nat.reduceBEq, reduceIte, hv1, c4, c6, gi13, ko15, i13, c19]
      · clear hL13 hI13
        intro e s hr13
        rw [hR13] at hr13
        clear hR13
        rcases z13 with v17 | r
        · try dsimp only at h hr13
          obtain ⟨rfl, o18, gi38, ko18, i38⟩ := hr13
          cases h
          subst hQ
          simp -implicitDefEqProofs only [go_sem, Nat.reduceEqDiff, Nat.reduceAdd, Nat.reduceLT, Nat.reduceLeDiff, Nat.reduceMul, Nat.reduceBEq, reduceIte, hv1, c4, c6, gi38, ko18, i38, Try.results28]
        · try dsimp only at h hr13
          obtain ⟨rfl, hr13⟩ := hr13
          cases h
          try simp -implicitDefEqProofs only [go_sem, Nat.reduceEqDiff, Nat.reduceAdd, Nat.reduceLT, Nat.reduceLeDiff, Nat.reduceMul, Nat.reduceBEq, reduceIte]
          exact hr13 rfl
theorem m_ref03_Solve_ev (a0 : List TTerm) (r0 : (List TTerm) × (List Int) × Int) (h : m_ref03_Solve a0 = some r0) (d : Nat) (G : Heap) : Tel Try.prog TB d 11 [.p (.sl (a0.map cTTerm))] G (.tup [.p (.sl (r0.1.map cTTerm)), .p (.sl (r0.2.1.map cii64)), .p (.int .i64 r0.2.2)]) (G) := by
  unfold m_ref03_Solve at h
  refine Tel.intro mix Try.func11 rfl (Nat.le_of_ble_eq_true rfl) {borAt := fun t => t == 50, frzAt := fun t => t == 30 || t == 37 || t == 57, arrAt := fun t => t == 42, clean := fun r => if r = 14 then [1000005] else []} (by kernel_rfl) (by kernel_rfl) ?_
  generalize hQ : callPost _ _ _ _ _ = Q
  rcases ib h with ⟨c1, h⟩ | ⟨c1, h⟩
  · cases h
    subst hQ
    simp -implicitDefEqProofs only [go_sem, Nat.reduceEqDiff, Nat.reduceAdd, Nat.reduceLT, Nat.reduceLeDiff, Nat.reduceMul, Nat.reduceBEq, reduceIte, c1, Try.results11]
  · simp -implicitDefEqProofs only [go_sem, Nat.reduceEqDiff, Nat.reduceAdd, Nat.reduceLT, Nat.reduceLeDiff, Nat.reduceMul, Nat.reduceBEq, reduceIte, c1]
    obtain ⟨z10, hL10, h⟩ := bs h
    obtain ⟨I10, hI10⟩ : ∃ I : ((List TTerm) × Int × (List Int)) → St → Prop, I = fun a s => match a with | (v11, v13, v14) => ∃ o12, s.G = fillKey (fillKey (cut d G) (d + 1) 39 (growO o12 39 3 (v11.map cTTerm))) (d + 1) 42 (arO ((v14 : List Int).map cii64)) ∧ growOK o12 [39] ∧ s.F 0 = .p (.sl (a0.map cTTerm)) ∧ s.F 5 = growV o12 (d + 1) (v11.map cTTerm) ∧ s.F 6 = arV ((v14 : List Int).map cii64) (d + 1, 42, 0) 1 ∧ s.F 7 = .p (.int .i64 v13) ∧ True := ⟨_, rfl⟩
    obtain ⟨R10, hR10⟩ : ∃ R : (((List TTerm) × (List Int)) ⊕ ((List TTerm) × (List Int) × Int)) → GE → St → Prop, R = fun x e s => match x with | .inl (v15, v17) => e = .exit 0 ∧ (∃ o16, s.G = fillKey (fillKey (cut d G) (d + 1) 39 (growO o16 39 3 (v15.map cTTerm))) (d + 1) 42 (arO ((v17 : List Int).map cii64)) ∧ growOK o16 [39] ∧ s.F 5 = growV o16 (d + 1) (v15.map cTTerm) ∧ s.F 6 = arV ((v17 : List Int).map cii64) (d + 1, 42, 0) 1 ∧ True) | .inr r => e = .ret ∧ (r = r0 → Q .ret s) := ⟨_, rfl⟩
    refine lp (ts := []) rfl hL10 I10 R10 ?_ ?_ ?_
    · rw [hI10]
      refine ⟨none, ?_⟩
      simp -implicitDefEqProofs only [go_sem, Nat.reduceEqDiff, Nat.reduceAdd, Nat.reduceLT, Nat.reduceLeDiff, Nat.reduceMul, Nat.reduceBEq, reduceIte, c1]
    · clear h hL10
      rintro ⟨v11, v13, v14⟩ y s h i
      rw [hI10] at i
      obtain ⟨o12, gi10, ko12, i10⟩ := i
      replace h : m_ref03_Solve_L0 a0 (v11, v13, v14) = some y := h
      unfold m_ref03_Solve_L0 at h
      rcases ib h with ⟨c18, h⟩ | ⟨c18, h⟩
      · obtain ⟨v19, hv19, h⟩ := bs h
        replace hv19 := gis hv19
        obtain ⟨r20, hr20, h⟩ := bs h
        simp -implicitDefEqProofs only [go_sem, Nat.reduceEqDiff, Nat.reduceAdd, Nat.reduceLT, Nat.reduceLeDiff, Nat.reduceMul, Nat.reduceBEq, reduceIte, c1, gi10, ko12, i10, c18, hv19]
        refine call_frz (r' := .p (.bool r20)) (m_ref02_Right_ev v19 r20 hr20 (d + 1) empty) (by simp -implicitDefEqProofs only [go_sem, Nat.reduceEqDiff, Nat.reduceAdd, Nat.reduceLT, Nat.reduceLeDiff, Nat.reduceMul, Nat.reduceBEq, reduceIte, c1, gi10, ko12, i10, c18, hv19]) rfl (by simp -implicitDefEqProofs only [go_sem, Nat.reduceEqDiff, Nat.reduceAdd, Nat.reduceLT, Nat.reduceLeDiff, Nat.reduceMul, Nat.reduceBEq, reduceIte]) (by simp -implicitDefEqProofs only [go_sem, Nat.reduceEqDiff, Nat.reduceAdd, Nat.reduceLT, Nat.reduceLeDiff, Nat.reduceMul, Nat.reduceBEq, reduceIte]) ?_ rfl rfl
        rcases ib h with ⟨c21, h⟩ | ⟨c21, h⟩
        · cases h
          simp -implicitDefEqProofs only [go_sem, Nat.reduceEqDiff, Nat.reduceAdd, Nat.reduceLT, Nat.reduceLeDiff, Nat.reduceMul, Nat.reduceBEq, reduceIte, c1, gi10, ko12, i10, c18, hv19, c21]
          rw [hR10]
          refine ⟨rfl, ?_⟩
          intro hr
          subst hr
          subst hQ
          simp -implicitDefEqProofs only [go_sem, Nat.reduceEqDiff, Nat.reduceAdd, Nat.reduceLT, Nat.reduceLeDiff, Nat.reduceMul, Nat.reduceBEq, reduceIte, c1, gi10, ko12, i10, c18, hv19, c21, Try.results11]
        · obtain ⟨r22, hr22, h⟩ := bs h
          simp -implicitDefEqProofs only [go_sem, Nat.reduceEqDiff, Nat.reduceAdd, Nat.reduceLT, Nat.reduceLeDiff, Nat.reduceMul, Nat.reduceBEq, reduceIte, c1, gi10, ko12, i10, c18, hv19, c21]
          refine call_frz (r' := .agg [.p (.sl (r22.f0.map cTRat)), .p (.int .i64 r22.f1.f0), .p (.int .i64 r22.f1.f1)]) (m_ref02_Own_ev v19 r22 hr22 (d + 1) empty) (by simp -implicitDefEqProofs only [go_sem, Nat.reduceEqDiff, Nat.reduceAdd, Nat.reduceLT, Nat.reduceLeDiff, Nat.reduceMul, Nat.reduceBEq, reduceIte, c1, gi10, ko12, i10, c18, hv19, c21]) rfl (by simp -implicitDefEqProofs only [go_sem, Nat.reduceEqDiff, Nat.reduceAdd, Nat.reduceLT, Nat.reduceLeDiff, Nat.reduceMul, Nat.reduceBEq, reduceIte]) (by simp -implicitDefEqProofs only [go_sem, Nat.reduceEqDiff, Nat.reduceAdd, Nat.reduceLT, Nat.reduceLeDiff, Nat.reduceMul, Nat.reduceBEq, reduceIte]) ?_ rfl rfl
          obtain ⟨_, c23, h⟩ := bs h
          replace c23 := rqs c23
          simp -implicitDefEqProofs only [go_sem, Nat.reduceEqDiff, Nat.reduceAdd, Nat.reduceLT, Nat.reduceLeDiff, Nat.reduceMul, Nat.reduceBEq, reduceIte, c1, gi10, ko12, i10, c18, hv19, c21, c23]
          refine append_G (o := o12) (ts := [39]) (es := (v11 : List TTerm).map cTTerm) (xs := ([r22] : List TTerm).map cTTerm) (ho := growOK.sub ko12 (by decide)) (hG := by simp -implicitDefEqProofs only [go_sem, Nat.reduceEqDiff, Nat.reduceAdd, Nat.reduceLT, Nat.reduceLeDiff, Nat.reduceMul, Nat.reduceBEq, reduceIte, c1, gi10, ko12, i10, c18, hv19, c21, c23]) (hj := by simp -implicitDefEqProofs only [go_sem, Nat.reduceEqDiff, Nat.reduceAdd, Nat.reduceLT, Nat.reduceLeDiff, Nat.reduceMul, Nat.reduceBEq, reduceIte]) (he := el22) (hx := by simp -implicitDefEqProofs only [go_sem, Nat.reduceEqDiff, Nat.reduceAdd, Nat.reduceLT, Nat.reduceLeDiff, Nat.reduceMul, Nat.reduceBEq, reduceIte, c1, gi10, ko12, i10, c18, hv19, c21, c23]) (h1 := by simp -implicitDefEqProofs only [go_sem, Nat.reduceEqDiff, Nat.reduceAdd, Nat.reduceLT, Nat.reduceLeDiff, Nat.reduceMul, Nat.reduceBEq, reduceIte]) (h2 := by simp -implicitDefEqProofs only [go_sem, Nat.reduceEqDiff, Nat.reduceAdd, Nat.reduceLT, Nat.reduceLeDiff, Nat.reduceMul, Nat.reduceBEq, reduceIte]) (ha := rfl) (hra := rfl) (hb := by simpa using c23) (hbb := by decide) ?_
          intro o24 ko24
          obtain ⟨_, c25, h⟩ := bs h
          replace c25 := rqs c25
          simp -implicitDefEqProofs only [go_sem, Nat.reduceEqDiff, Nat.reduceAdd, Nat.reduceLT, Nat.reduceLeDiff, Nat.reduceMul, Nat.reduceBEq, reduceIte, c1, gi10, ko12, i10, c18, hv19, c21, c23, ko24, c25]
          refine append_A (l := (v14 : List Int)) (m := ([-1] : List Int)) (c := cii64) (he := el25) (hx := by simp -implicitDefEqProofs only [go_sem, Nat.reduceEqDiff, Nat.reduceAdd, Nat.reduceLT, Nat.reduceLeDiff, Nat.reduceMul, Nat.reduceBEq, reduceIte, c1, gi10, ko12, i10, c18, hv19, c21, c23, ko24, c25]) (hc := fun _ => rfl) (hm := by simp) (ha := rfl) (hra := rfl) (hb := by simpa using c25) (hbb := by decide) (hG := by simp -implicitDefEqProofs only [go_sem, Nat.reduceEqDiff, Nat.reduceAdd, Nat.reduceLT, Nat.reduceLeDiff, Nat.reduceMul, Nat.reduceBEq, reduceIte, c1, gi10, ko12, i10, c18, hv19, c21, c23, ko24, c25]) (hn := fun _ => ⟨rfl, rfl⟩) ?_
          have c26 : ((v14 ++ ([-1])) : List Int) ≠ [] := by simp
          cases h
          simp -implicitDefEqProofs only [go_sem, Nat.reduceEqDiff, Nat.reduceAdd, Nat.reduceLT, Nat.reduceLeDiff, Nat.reduceMul, Nat.reduceBEq, reduceIte, c1, gi10, ko12, i10, c18, hv19, c21, c23, ko24, c25, c26]
          rw [hI10]
          refine ⟨o24, ?_⟩
          simp -implicitDefEqProofs only [go_sem, Nat.reduceEqDiff, Nat.reduceAdd, Nat.reduceLT, Nat.reduceLeDiff, Nat.reduceMul, Nat.reduceBEq, reduceIte, c1, gi10, ko12, i10, c18, hv19, c21, c23, ko24, c25, c26]
      · cases h
        simp -implicitDefEqProofs only [go_sem, Nat.reduceEqDiff, Nat.reduceAdd, Nat.reduceLT, Nat.reduceLeDiff, Nat.reduceMul, Nat.reduceBEq, reduceIte, c1, gi10, ko12, i10, c18]
        rw [hR10]
        first | refine ⟨rfl, o12, ?_⟩ | refine ⟨(), rfl, o12, ?_⟩
        simp -implicitDefEqProofs only [go_sem, Nat.reduceEqDiff, Nat.reduceAdd, Nat.reduceLT, Nat.reduceLeDiff, Nat.reduceMul, Nat.reduceBEq, reduceIte, c1, gi10, ko12, i10, c18]
    · clear hL10 hI10
      intro e s hr10
      rw [hR10] at hr10
      clear hR10
      rcases z10 with ⟨v15, v17⟩ | r
      · try dsimp only at h hr10
        obtain ⟨rfl, o16, gi27, ko16, i27⟩ := hr10
        simp -implicitDefEqProofs only [go_sem, Nat.reduceEqDiff, Nat.reduceAdd, Nat.reduceLT, Nat.reduceLeDiff, Nat.reduceMul, Nat.reduceBEq, reduceIte, c1, gi27, ko16, i27]
        obtain ⟨z42, hL42, h⟩ := bs h
        obtain ⟨I42, hI42⟩ : ∃ I : ((List TTerm) × (List Int) × (List Int) × Int × (List Int)) → St → Prop, I = fun a s => match a with | (v43, v44, v46, v48, v49) => ∃ o45 o47, s.G = fillKey (fillKey (fillKey (fillKey (cut d G) (d + 1) 39 (growO o16 39 3 (v15.map cTTerm))) (d + 1) 42 (arO ((v49 : List Int).map cii64))) (d + 1) 70 (growO o45 70 1 (v44.map cii64))) (d + 1) 74 (growO o47 74 1 (v46.map cii64)) ∧ growOK o45 [70] ∧ growOK o47 [74] ∧ s.F 5 = .p (.sl (v43.map cTTerm)) ∧ s.F 6 = arV ((v49 : List Int).map cii64) (d + 1, 42, 0) 1 ∧ s.F 8 = growV o45 (d + 1) (v44.map cii64) ∧ s.F 9 = growV o47 (d + 1) (v46.map cii64) ∧ s.F 10 = .p (.int .i64 v48) ∧ True := ⟨_, rfl⟩
        obtain ⟨R42, hR42⟩ : ∃ R : (((List TTerm) × (List Int) × (List Int) × (List Int)) ⊕ ((List TTerm) × (List Int) × Int)) → GE → St → Prop, R = fun x e s => match x with | .inl (v50, v51, v53, v55) => e = .exit 2 ∧ (∃ o52 o54, s.G = fillKey (fillKey (fillKey (fillKey (cut d G) (d + 1) 39 (growO o16 39 3 (v15.map cTTerm))) (d + 1) 42 (arO ((v55 : List Int).map cii64))) (d + 1) 70 (growO o52 70 1 (v51.map cii64))) (d + 1) 74 (growO o54 74 1 (v53.map cii64)) ∧ growOK o52 [70] ∧ growOK o54 [74] ∧ s.F 5 = .p (.sl (v50.map cTTerm)) ∧ s.F 6 = arV ((v55 : List Int).map cii64) (d + 1, 42, 0) 1 ∧ s.F 8 = growV o52 (d + 1) (v51.map cii64) ∧ s.F 9 = growV o54 (d + 1) (v53.map cii64) ∧ True) | .inr r => e = .ret ∧ (r = r0 → Q .ret s) := ⟨_, rfl⟩
        refine lp (ts := [1000005]) rfl hL42 I42 R42 ?_ ?_ ?_
        · rw [hI42]
          refine ⟨none, none, ?_⟩
          simp -implicitDefEqProofs only [go_sem, Nat.reduceEqDiff, Nat.reduceAdd, Nat.reduceLT, Nat.reduceLeDiff, Nat.reduceMul, Nat.reduceBEq, reduceIte, c1, gi27, ko16, i27, poison_grow (d := d + 1) (ts := [1000005]) ko16 (by decide)]
        · clear h hL42
          rintro ⟨v43, v44, v46, v48, v49⟩ y s h i
          rw [hI42] at i
          obtain ⟨o45, o47, gi42, ko45, ko47, i42⟩ := i
          replace h : m_ref03_Solve_L1 (v43, v44, v46, v48, v49) = some y := h
          unfold m_ref03_Solve_L1 at h
          rcases ib h with ⟨c56, h⟩ | ⟨c56, h⟩
          · obtain ⟨r57, hr57, h⟩ := bs h
            simp -implicitDefEqProofs only [go_sem, Nat.reduceEqDiff, Nat.reduceAdd, Nat.reduceLT, Nat.reduceLeDiff, Nat.reduceMul, Nat.reduceBEq, reduceIte, c1, gi27, ko16, i27, gi42, ko45, ko47, i42, c56]
            refine call_look (m_ref03_first_ev v43 v49 v48 r57 hr57 (d + 1) empty) (by simp -implicitDefEqProofs only [go_sem, Nat.reduceEqDiff, Nat.reduceAdd, Nat.reduceLT, Nat.reduceLeDiff, Nat.reduceMul, Nat.reduceBEq, reduceIte, c1, gi27, ko16, i27, gi42, ko45, ko47, i42, c56]) (by simp -implicitDefEqProofs only [go_sem, Nat.reduceEqDiff, Nat.reduceAdd, Nat.reduceLT, Nat.reduceLeDiff, Nat.reduceMul, Nat.reduceBEq, reduceIte]) (by simp -implicitDefEqProofs only [go_sem, Nat.reduceEqDiff, Nat.reduceAdd, Nat.reduceLT, Nat.reduceLeDiff, Nat.reduceMul, Nat.reduceBEq, reduceIte]) ?_ rfl
            rcases ib h with ⟨c58, h⟩ | ⟨c58, h⟩
            · cases h
              simp -implicitDefEqProofs only [go_sem, Nat.reduceEqDiff, Nat.reduceAdd, Nat.reduceLT, Nat.reduceLeDiff, Nat.reduceMul, Nat.reduceBEq, reduceIte, c1, gi27, ko16, i27, gi42, ko45, ko47, i42, c56, c58]
              rw [hI42]
              refine ⟨o45, o47, ?_⟩
              simp -implicitDefEqProofs only [go_sem, Nat.reduceEqDiff, Nat.reduceAdd, Nat.reduceLT, Nat.reduceLeDiff, Nat.reduceMul, Nat.reduceBEq, reduceIte, c1, gi27, ko16, i27, gi42, ko45, ko47, i42, c56, c58, poison_grow (d := d + 1) (ts := [1000005]) ko45 (by decide), poison_grow (d := d + 1) (ts := [1000005]) ko47 (by decide)]
            · obtain ⟨r59, hr59, h⟩ := bs h
              simp -implicitDefEqProofs only [go_sem, Nat.reduceEqDiff, Nat.reduceAdd, Nat.reduceLT, Nat.reduceLeDiff, Nat.reduceMul, Nat.reduceBEq, reduceIte, c1, gi27, ko16, i27, gi42, ko45, ko47, i42, c56, c58]
              refine call_frz (r' := .tup [.p (.sl (r59.1.map cTTerm)), .p (.bool r59.2)]) (m_ref03_take_ev v43 r57 v48 r59 hr59 (d + 1) empty) (by simp -implicitDefEqProofs only [go_sem, Nat.reduceEqDiff, Nat.reduceAdd, Nat.reduceLT, Nat.reduceLeDiff, Nat.reduceMul, Nat.reduceBEq, reduceIte, c1, gi27, ko16, i27, gi42, ko45, ko47, i42, c56, c58]) rfl (by simp -implicitDefEqProofs only [go_sem, Nat.reduceEqDiff, Nat.reduceAdd, Nat.reduceLT, Nat.reduceLeDiff, Nat.reduceMul, Nat.reduceBEq, reduceIte]) (by simp -implicitDefEqProofs only [go_sem, Nat.reduceEqDiff, Nat.reduceAdd, Nat.reduceLT, Nat.reduceLeDiff, Nat.reduceMul, Nat.reduceBEq, reduceIte]) ?_ rfl rfl
              rcases ib h with ⟨c60, h⟩ | ⟨c60, h⟩
              · cases h
                simp -implicitDefEqProofs only [go_sem, Nat.reduceEqDiff, Nat.reduceAdd, Nat.reduceLT, Nat.reduceLeDiff, Nat.reduceMul, Nat.reduceBEq, reduceIte, c1, gi27, ko16, i27, gi42, ko45, ko47, i42, c56, c58, c60]
                rw [hR42]
                refine ⟨rfl, ?_⟩
                intro hr
                subst hr
                subst hQ
                simp -implicitDefEqProofs only [go_sem, Nat.reduceEqDiff, Nat.reduceAdd, Nat.reduceLT, Nat.reduceLeDiff, Nat.reduceMul, Nat.reduceBEq, reduceIte, c1, gi27, ko16, i27, gi42, ko45, ko47, i42, c56, c58, c60, Try.results11]
              · obtain ⟨_, c61, h⟩ := bs h
                replace c61 := rqs c61
                obtain ⟨_, c62, h⟩ := bs h
                replace c62 := rqs c62
                have c63 := ne_of_idx c61 c62
                obtain ⟨v64, hv64, h⟩ := bs h
                replace hv64 := gis hv64
                obtain ⟨_, c65, h⟩ := bs h
                replace c65 := rqs c65
                simp -implicitDefEqProofs only [go_sem, Nat.reduceEqDiff, Nat.reduceAdd, Nat.reduceLT, Nat.reduceLeDiff, Nat.reduceMul, Nat.reduceBEq, reduceIte, c1, gi27, ko16, i27, gi42, ko45, ko47, i42, c56, c58, c60, c61, c62, c63, hv64, c65]
                refine append_G (o := o45) (ts := [70]) (es := (v44 : List Int).map cii64) (xs := ([r57] : List Int).map cii64) (ho := growOK.sub ko45 (by decide)) (hG := by simp -implicitDefEqProofs only [go_sem, Nat.reduceEqDiff, Nat.reduceAdd, Nat.reduceLT, Nat.reduceLeDiff, Nat.reduceMul, Nat.reduceBEq, reduceIte, c1, gi27, ko16, i27, gi42, ko45, ko47, i42, c56, c58, c60, c61, c62, c63, hv64, c65]) (hj := by simp -implicitDefEqProofs only [go_sem, Nat.reduceEqDiff, Nat.reduceAdd, Nat.reduceLT, Nat.reduceLeDiff, Nat.reduceMul, Nat.reduceBEq, reduceIte]) (he := el25) (hx := by simp -implicitDefEqProofs only [go_sem, Nat.reduceEqDiff, Nat.reduceAdd, Nat.reduceLT, Nat.reduceLeDiff, Nat.reduceMul, Nat.reduceBEq, reduceIte, c1, gi27, ko16, i27, gi42, ko45, ko47, i42, c56, c58, c60, c61, c62, c63, hv64, c65]) (h1 := by simp -implicitDefEqProofs only [go_sem, Nat.reduceEqDiff, Nat.reduceAdd, Nat.reduceLT, Nat.reduceLeDiff, Nat.reduceMul, Nat.reduceBEq, reduceIte]) (h2 := by simp -implicitDefEqProofs only [go_sem, Nat.reduceEqDiff, Nat.reduceAdd, Nat.reduceLT, Nat.reduceLeDiff, Nat.reduceMul, Nat.reduceBEq, reduceIte]) (ha := rfl) (hra := rfl) (hb := by simpa using c65) (hbb := by decide) ?_
                intro o66 ko66
                obtain ⟨_, c67, h⟩ := bs h
                replace c67 := rqs c67
                simp -implicitDefEqProofs only [go_sem, Nat.reduceEqDiff, Nat.reduceAdd, Nat.reduceLT, Nat.reduceLeDiff, Nat.reduceMul, Nat.reduceBEq, reduceIte, c1, gi27, ko16, i27, gi42, ko45, ko47, i42, c56, c58, c60, c61, c62, c63, hv64, c65, ko66, c67]
                refine append_G (o := o47) (ts := [74]) (es := (v46 : List Int).map cii64) (xs := ([v48] : List Int).map cii64) (ho := growOK.sub ko47 (by decide)) (hG := by simp -implicitDefEqProofs only [go_sem, Nat.reduceEqDiff, Nat.reduceAdd, Nat.reduceLT, Nat.reduceLeDiff, Nat.reduceMul, Nat.reduceBEq, reduceIte, c1, gi27, ko16, i27, gi42, ko45, ko47, i42, c56, c58, c60, c61, c62, c63, hv64, c65, ko66, c67]) (hj := by simp -implicitDefEqProofs only [go_sem, Nat.reduceEqDiff, Nat.reduceAdd, Nat.reduceLT, Nat.reduceLeDiff, Nat.reduceMul, Nat.reduceBEq, reduceIte]) (he := el25) (hx := by simp -implicitDefEqProofs only [go_sem, Nat.reduceEqDiff, Nat.reduceAdd, Nat.reduceLT, Nat.reduceLeDiff, Nat.reduceMul, Nat.reduceBEq, reduceIte, c1, gi27, ko16, i27, gi42, ko45, ko47, i42, c56, c58, c60, c61, c62, c63, hv64, c65, ko66, c67]) (h1 := by simp -implicitDefEqProofs only [go_sem, Nat.reduceEqDiff, Nat.reduceAdd, Nat.reduceLT, Nat.reduceLeDiff, Nat.reduceMul, Nat.reduceBEq, reduceIte]) (h2 := by simp -implicitDefEqProofs only [go_sem, Nat.reduceEqDiff, Nat.reduceAdd, Nat.reduceLT, Nat.reduceLeDiff, Nat.reduceMul, Nat.reduceBEq, reduceIte]) (ha := rfl) (hra := rfl) (hb := by simpa using c67) (hbb := by decide) ?_
                intro o68 ko68
                cases h
                simp -implicitDefEqProofs only [go_sem, Nat.reduceEqDiff, Nat.reduceAdd, Nat.reduceLT, Nat.reduceLeDiff, Nat.reduceMul, Nat.reduceBEq, reduceIte, c1, gi27, ko16, i27, gi42, ko45, ko47, i42, c56, c58, c60, c61, c62, c63, hv64, c65, ko66, c67, ko68]
                rw [hI42]
                refine ⟨o66, o68, ?_⟩
                simp -implicitDefEqProofs only [go_sem, Nat.reduceEqDiff, Nat.reduceAdd, Nat.reduceLT, Nat.reduceLeDiff, Nat.reduceMul, Nat.reduceBEq, reduceIte, c1, gi27, ko16, i27, gi42, ko45, ko47, i42, c56, c58, c60, c61, c62, c63, hv64, c65, ko66, c67, ko68, poison_grow (d := d + 1) (ts := [1000005]) ko66 (by decide), poison_grow (d := d + 1) (ts := [1000005]) ko68 (by decide), poison_grow (d := d + 1) (ts := [1000005]) ko45 (by decide), poison_grow (d := d + 1) (ts := [1000005]) ko47 (by decide)]
          · cases h
            simp -implicitDefEqProofs only [go_sem, Nat.reduceEqDiff, Nat.reduceAdd, Nat.reduceLT, Nat.reduceLeDiff, Nat.reduceMul, Nat.reduceBEq, reduceIte, c1, gi27, ko16, i27, gi42, ko45, ko47, i42, c56]
            rw [hR42]
            first | refine ⟨rfl, o45, o47, ?_⟩ | refine ⟨(), rfl, o45, o47, ?_⟩
            simp -implicitDefEqProofs only [go_sem, Nat.reduceEqDiff, Nat.reduceAdd, Nat.reduceLT, Nat.reduceLeDiff, Nat.reduceMul, Nat.reduceBEq, reduceIte, c1, gi27, ko16, i27, gi42, ko45, ko47, i42, c56]
        · clear hL42 hI42
          intro e s hr42
          rw [hR42] at hr42
          clear hR42
          rcases z42 with ⟨v50, v51, v53, v55⟩ | r
          · try dsimp only at h hr42
            obtain ⟨rfl, o52, o54, gi69, ko52, ko54, i69⟩ := hr42
            simp -implicitDefEqProofs only [go_sem, Nat.reduceEqDiff, Nat.reduceAdd, Nat.reduceLT, Nat.reduceLeDiff, Nat.reduceMul, Nat.reduceBEq, reduceIte, c1, gi27, ko16, i27, gi69, ko52, ko54, i69]
            obtain ⟨z72, hL72, h⟩ := bs h
            obtain ⟨I72, hI72⟩ : ∃ I : Int → St → Prop, I = fun v73 s => s.G = fillKey (fillKey (fillKey (fillKey (cut d G) (d + 1) 39 (growO o16 39 3 (v15.map cTTerm))) (d + 1) 42 (arO ((v55 : List Int).map cii64))) (d + 1) 70 (growO o52 70 1 (v51.map cii64))) (d + 1) 74 (growO o54 74 1 (v53.map cii64)) ∧ s.F 5 = .p (.sl (v50.map cTTerm)) ∧ s.F 6 = arV ((v55 : List Int).map cii64) (d + 1, 42, 0) 1 ∧ s.F 8 = growV o52 (d + 1) (v51.map cii64) ∧ s.F 9 = growV o54 (d + 1) (v53.map cii64) ∧ s.F 14 = .p (.int .i64 v73) ∧ True := ⟨_, rfl⟩
            obtain ⟨R72, hR72⟩ : ∃ R : ((Unit) ⊕ ((List TTerm) × (List Int) × Int)) → GE → St → Prop, R = fun x e s => match x with | .inl _ => e = .exit 4 ∧ s.G = fillKey (fillKey (fillKey (fillKey (cut d G) (d + 1) 39 (growO o16 39 3 (v15.map cTTerm))) (d + 1) 42 (arO ((v55 : List Int).map cii64))) (d + 1) 70 (growO o52 70 1 (v51.map cii64))) (d + 1) 74 (growO o54 74 1 (v53.map cii64)) ∧ s.F 5 = .p (.sl (v50.map cTTerm)) ∧ s.F 8 = growV o52 (d + 1) (v51.map cii64) ∧ s.F 9 = growV o54 (d + 1) (v53.map cii64) ∧ True | .inr r => e = .ret ∧ (r = r0 → Q .ret s) := ⟨_, rfl⟩
            refine lp (ts := []) rfl hL72 I72 R72 ?_ ?_ ?_
            · rw [hI72]
              simp -implicitDefEqProofs only [go_sem, Nat.reduceEqDiff, Nat.reduceAdd, Nat.reduceLT, Nat.reduceLeDiff, Nat.reduceMul, Nat.reduceBEq, reduceIte, c1, gi27, ko16, i27, gi69, ko52, ko54, i69]
            · clear h hL72
              rintro v73 y s h i
              rw [hI72] at i
              obtain ⟨gi72, i72⟩ := i
              replace h : m_ref03_Solve_L2 v50 v55 (v73) = some y := h
              unfold m_ref03_Solve_L2 at h
              rcases ib h with ⟨c74, h⟩ | ⟨c74, h⟩
              · obtain ⟨_, c75, h⟩ := bs h
                replace c75 := rqs c75
                obtain ⟨_, c76, h⟩ := bs h
                replace c76 := rqs c76
                have c77 := ne_of_idx c75 c76
                obtain ⟨v78, hv78, h⟩ := bs h
                replace hv78 := gis hv78
                simp -implicitDefEqProofs only [go_sem, Nat.reduceEqDiff, Nat.reduceAdd, Nat.reduceLT, Nat.reduceLeDiff, Nat.reduceMul, Nat.reduceBEq, reduceIte, c1, gi27, ko16, i27, gi69, ko52, ko54, i69, gi72, i72, c74, c75, c76, c77, hv78]
                obtain ⟨v79, hz, h⟩ := bs h
                obtain ⟨R80, hR80⟩ : ∃ R : St → Prop, R = fun s => s.G = fillKey (fillKey (fillKey (fillKey (cut d G) (d + 1) 39 (growO o16 39 3 (v15.map cTTerm))) (d + 1) 42 (arO ((v55 : List Int).map cii64))) (d + 1) 70 (growO o52 70 1 (v51.map cii64))) (d + 1) 74 (growO o54 74 1 (v53.map cii64)) ∧ s.F 5 = .p (.sl (v50.map cTTerm)) ∧ s.F 6 = arV ((v55 : List Int).map cii64) (d + 1, 42, 0) 1 ∧ s.F 8 = growV o52 (d + 1) (v51.map cii64) ∧ s.F 9 = growV o54 (d + 1) (v53.map cii64) ∧ s.F 14 = .p (.int .i64 v73) ∧ s.F 94 = .p (.bool v79) ∧ True := ⟨_, rfl⟩
                refine cutR R80 ?_ ?_
                · replace h := hz
                  rcases ib h with ⟨c81, h⟩ | ⟨c81, h⟩
                  · obtain ⟨v82, hv82, h⟩ := bs h
                    replace hv82 := gis hv82
                    cases h
                    simp -implicitDefEqProofs only [go_sem, Nat.reduceEqDiff, Nat.reduceAdd, Nat.reduceLT, Nat.reduceLeDiff, Nat.reduceMul, Nat.reduceBEq, reduceIte, c1, gi27, ko16, i27, gi69, ko52, ko54, i69, gi72, i72, c74, c75, c76, c77, hv78, c81, hv82]
                    rw [hR80]
                    simp -implicitDefEqProofs only [go_sem, Nat.reduceEqDiff, Nat.reduceAdd, Nat.reduceLT, Nat.reduceLeDiff, Nat.reduceMul, Nat.reduceBEq, reduceIte, c1, gi27, ko16, i27, gi69, ko52, ko54, i69, gi72, i72, c74, c75, c76, c77, hv78, c81, hv82]
                  · cases h
                    simp -implicitDefEqProofs only [go_sem, Nat.reduceEqDiff, Nat.reduceAdd, Nat.reduceLT, Nat.reduceLeDiff, Nat.reduceMul, Nat.reduceBEq, reduceIte, c1, gi27, ko16, i27, gi69, ko52, ko54, i69, gi72, i72, c74, c75, c76, c77, hv78, c81]
                    rw [hR80]
                    simp -implicitDefEqProofs only [go_sem, Nat.reduceEqDiff, Nat.reduceAdd, Nat.reduceLT, Nat.reduceLeDiff, Nat.reduceMul, Nat.reduceBEq, reduceIte, c1, gi27, ko16, i27, gi69, ko52, ko54, i69, gi72, i72, c74, c75, c76, c77, hv78, c81]
                · replace h := h; clear hz
                  rintro s i
                  rw [hR80] at i
                  obtain ⟨gi83, i83⟩ := i
                  clear hR80
                  try dsimp only at h
                  rcases ib h with ⟨c84, h⟩ | ⟨c84, h⟩
                  · cases h
                    simp -implicitDefEqProofs only [go_sem, Nat.reduceEqDiff, Nat.reduceAdd, Nat.reduceLT, Nat.reduceLeDiff, Nat.reduceMul, Nat.reduceBEq, reduceIte, c1, gi27, ko16, i27, gi69, ko52, ko54, i69, gi72, i72, c74, c75, c76, c77, hv78, gi83, i83, c84]
                    rw [hR72]
                    refine ⟨rfl, ?_⟩
                    intro hr
                    subst hr
                    subst hQ
                    simp -implicitDefEqProofs only [go_sem, Nat.reduceEqDiff, Nat.reduceAdd, Nat.reduceLT, Nat.reduceLeDiff, Nat.reduceMul, Nat.reduceBEq, reduceIte, c1, gi27, ko16, i27, gi69, ko52, ko54, i69, gi72, i72, c74, c75, c76, c77, hv78, gi83, i83, c84, Try.results11]
                  · cases h
                    simp -implicitDefEqProofs only [go_sem, Nat.reduceEqDiff, Nat.reduceAdd, Nat.reduceLT, Nat.reduceLeDiff, Nat.reduceMul, Nat.reduceBEq, reduceIte, c1, gi27, ko16, i27, gi69, ko52, ko54, i69, gi72, i72, c74, c75, c76, c77, hv78, gi83, i83, c84]
                    rw [hI72]
                    simp -implicitDefEqProofs only [go_sem, Nat.reduceEqDiff, Nat.reduceAdd, Nat.reduceLT, Nat.reduceLeDiff, Nat.reduceMul, Nat.reduceBEq, reduceIte, c1, gi27, ko16, i27, gi69, ko52, ko54, i69, gi72, i72, c74, c75, c76, c77, hv78, gi83, i83, c84]
              · cases h
                simp -implicitDefEqProofs only [go_sem, Nat.reduceEqDiff, Nat.reduceAdd, Nat.reduceLT, Nat.reduceLeDiff, Nat.reduceMul, Nat.reduceBEq, reduceIte, c1, gi27, ko16, i27, gi69, ko52, ko54, i69, gi72, i72, c74]
                rw [hR72]
                first | refine ⟨rfl, ?_⟩ | refine ⟨(), rfl, ?_⟩
                simp -implicitDefEqProofs only [go_sem, Nat.reduceEqDiff, Nat.reduceAdd, Nat.reduceLT, Nat.reduceLeDiff, Nat.reduceMul, Nat.reduceBEq, reduceIte, c1, gi27, ko16, i27, gi69, ko52, ko54, i69, gi72, i72, c74]
            · clear hL72 hI72
              intro e s hr72
              rw [hR72] at hr72
              clear hR72
              rcases z72 with _ | r
              · try dsimp only at h hr72
                obtain ⟨rfl, gi85, i85⟩ := hr72
                simp -implicitDefEqProofs only [go_sem, Nat.reduceEqDiff, Nat.reduceAdd, Nat.reduceLT, Nat.reduceLeDiff, Nat.reduceMul, Nat.reduceBEq, reduceIte, c1, gi27, ko16, i27, gi69, ko52, ko54, i69, gi85, i85]
                obtain ⟨z92, hL92, h⟩ := bs h
                obtain ⟨I92, hI92⟩ : ∃ I : ((List TTerm) × Int) → St → Prop, I = fun a s => match a with | (v93, v95) => ∃ o94, s.G = fillKey (fillKey (fillKey (fillKey (fillKey (cut d G) (d + 1) 39 (growO o16 39 3 (v15.map cTTerm))) (d + 1) 42 (arO ((v55 : List Int).map cii64))) (d + 1) 70 (growO o52 70 1 (v51.map cii64))) (d + 1) 74 (growO o54 74 1 (v53.map cii64))) (d + 1) 110 (growO o94 110 3 (v93.map cTTerm)) ∧ growOK o94 [110] ∧ s.F 5 = .p (.sl (v50.map cTTerm)) ∧ s.F 8 = growV o52 (d + 1) (v51.map cii64) ∧ s.F 9 = growV o54 (d + 1) (v53.map cii64) ∧ s.F 15 = growV o94 (d + 1) (v93.map cTTerm) ∧ s.F 16 = .p (.int .i64 v95) ∧ True := ⟨_, rfl⟩
                obtain ⟨R92, hR92⟩ : ∃ R : ((List TTerm)) → GE → St → Prop, R = fun v96 e s => e = .exit 6 ∧ (∃ o97, s.G = fillKey (fillKey (fillKey (fillKey (fillKey (cut d G) (d + 1) 39 (growO o16 39 3 (v15.map cTTerm))) (d + 1) 42 (arO ((v55 : List Int).map cii64))) (d + 1) 70 (growO o52 70 1 (v51.map cii64))) (d + 1) 74 (growO o54 74 1 (v53.map cii64))) (d + 1) 110 (growO o97 110 3 (v96.map cTTerm)) ∧ growOK o97 [110] ∧ s.F 9 = growV o54 (d + 1) (v53.map cii64) ∧ s.F 15 = growV o97 (d + 1) (v96.map cTTerm) ∧ True) := ⟨_, rfl⟩
                refine lp (ts := []) rfl hL92 I92 R92 ?_ ?_ ?_
                · rw [hI92]
                  refine ⟨none, ?_⟩
                  simp -implicitDefEqProofs only [go_sem, Nat.reduceEqDiff, Nat.reduceAdd, Nat.reduceLT, Nat.reduceLeDiff, Nat.reduceMul, Nat.reduceBEq, reduceIte, c1, gi27, ko16, i27, gi69, ko52, ko54, i69, gi85, i85]
                · clear h hL92
                  rintro ⟨v93, v95⟩ y s h i
                  rw [hI92] at i
                  obtain ⟨o94, gi92, ko94, i92⟩ := i
                  replace h : m_ref03_Solve_L3 v51 v50 (v93, v95) = some y := h
                  unfold m_ref03_Solve_L3 at h
                  rcases ib h with ⟨c98, h⟩ | ⟨c98, h⟩
                  · obtain ⟨v99, hv99, h⟩ := bs h
                    replace hv99 := gis hv99
                    obtain ⟨v100, hv100, h⟩ := bs h
                    replace hv100 := gis hv100
                    obtain ⟨_, c101, h⟩ := bs h
                    replace c101 := rqs c101
                    simp -implicitDefEqProofs only [go_sem, Nat.reduceEqDiff, Nat.reduceAdd, Nat.reduceLT, Nat.reduceLeDiff, Nat.reduceMul, Nat.reduceBEq, reduceIte, c1, gi27, ko16, i27, gi69, ko52, ko54, i69, gi85, i85, gi92, ko94, i92, c98, hv99, hv100, c101]
                    refine append_G (o := o94) (ts := [110]) (es := (v93 : List TTerm).map cTTerm) (xs := ([v100] : List TTerm).map cTTerm) (ho := growOK.sub ko94 (by decide)) (hG := by simp -implicitDefEqProofs only [go_sem, Nat.reduceEqDiff, Nat.reduceAdd, Nat.reduceLT, Nat.reduceLeDiff, Nat.reduceMul, Nat.reduceBEq, reduceIte, c1, gi27, ko16, i27, gi69, ko52, ko54, i69, gi85, i85, gi92, ko94, i92, c98, hv99, hv100, c101]) (hj := by simp -implicitDefEqProofs only [go_sem, Nat.reduceEqDiff, Nat.reduceAdd, Nat.reduceLT, Nat.reduceLeDiff, Nat.reduceMul, Nat.reduceBEq, reduceIte]) (he := el22) (hx := by simp -implicitDefEqProofs only [go_sem, Nat.reduceEqDiff, Nat.reduceAdd, Nat.reduceLT, Nat.reduceLeDiff, Nat.reduceMul, Nat.reduceBEq, reduceIte, c1, gi27, ko16, i27, gi69, ko52, ko54, i69, gi85, i85, gi92, ko94, i92, c98, hv99, hv100, c101]) (h1 := by simp -implicitDefEqProofs only [go_sem, Nat.reduceEqDiff, Nat.reduceAdd, Nat.reduceLT, Nat.reduceLeDiff, Nat.reduceMul, Nat.reduceBEq, reduceIte]) (h2 := by simp -implicitDefEqProofs only [go_sem, Nat.reduceEqDiff, Nat.reduceAdd, Nat.reduceLT, Nat.reduceLeDiff, Nat.reduceMul, Nat.reduceBEq, reduceIte]) (ha := rfl) (hra := rfl) (hb := by simpa using c101) (hbb := by decide) ?_
                    intro o102 ko102
                    cases h
                    simp -implicitDefEqProofs only [go_sem, Nat.reduceEqDiff, Nat.reduceAdd, Nat.reduceLT, Nat.reduceLeDiff, Nat.reduceMul, Nat.reduceBEq, reduceIte, c1, gi27, ko16, i27, gi69, ko52, ko54, i69, gi85, i85, gi92, ko94, i92, c98, hv99, hv100, c101, ko102]
                    rw [hI92]
                    refine ⟨o102, ?_⟩
                    simp -implicitDefEqProofs only [go_sem, Nat.reduceEqDiff, Nat.reduceAdd, Nat.reduceLT, Nat.reduceLeDiff, Nat.reduceMul, Nat.reduceBEq, reduceIte, c1, gi27, ko16, i27, gi69, ko52, ko54, i69, gi85, i85, gi92, ko94, i92, c98, hv99, hv100, c101, ko102]
                  · cases h
                    simp -implicitDefEqProofs only [go_sem, Nat.reduceEqDiff, Nat.reduceAdd, Nat.reduceLT, Nat.reduceLeDiff, Nat.reduceMul, Nat.reduceBEq, reduceIte, c1, gi27, ko16, i27, gi69, ko52, ko54, i69, gi85, i85, gi92, ko94, i92, c98]
                    rw [hR92]
                    first | refine ⟨rfl, o94, ?_⟩ | refine ⟨(), rfl, o94, ?_⟩
                    simp -implicitDefEqProofs only [go_sem, Nat.reduceEqDiff, Nat.reduceAdd, Nat.reduceLT, Nat.reduceLeDiff, Nat.reduceMul, Nat.reduceBEq, reduceIte, c1, gi27, ko16, i27, gi69, ko52, ko54, i69, gi85, i85, gi92, ko94, i92, c98]
                · clear hL92 hI92
                  intro e s hr92
                  rw [hR92] at hr92
                  clear hR92
                  revert h hr92
                  generalize z92 = v96
                  intro h hr92
                  try dsimp only at h hr92
                  obtain ⟨rfl, o97, gi103, ko97, i103⟩ := hr92
                  cases h
                  subst hQ
                  simp -implicitDefEqProofs only [go_sem, Nat.reduceEqDiff, Nat.reduceAdd, Nat.reduceLT, Nat.reduceLeDiff, Nat.reduceMul, Nat.reduceBEq, reduceIte, c1, gi27, ko16, i27, gi69, ko52, ko54, i69, gi85, i85, gi103, ko97, i103, Try.results11]
              · try dsimp only at h hr72
                obtain ⟨rfl, hr72⟩ := hr72
                cases h
                try simp -implicitDefEqProofs only [go_sem, Nat.reduceEqDiff, Nat.reduceAdd, Nat.reduceLT, Nat.reduceLeDiff, Nat.reduceMul, Nat.reduceBEq, reduceIte]
                exact hr72 rfl
          · try dsimp only at h hr42
            obtain ⟨rfl, hr42⟩ := hr42
            cases h
            try simp -implicitDefEqProofs only [go_sem, Nat.reduceEqDiff, Nat.reduceAdd, Nat.reduceLT, Nat.reduceLeDiff, Nat.reduceMul, Nat.reduceBEq, reduceIte]
            exact hr42 rfl
      · try dsimp only at h hr10
        obtain ⟨rfl, hr10⟩ := hr10
        cases h
        try simp -implicitDefEqProofs only [go_sem, Nat.reduceEqDiff, Nat.reduceAdd, Nat.reduceLT, Nat.reduceLeDiff, Nat.reduceMul, Nat.reduceBEq, reduceIte]
        exact hr10 rfl
theorem m_ref03_Same_ev (a0 : List TTerm) (a1 : List TTerm) (r0 : Bool) (h : m_ref03_Same a0 a1 = some r0) (d : Nat) (G : Heap) : Tel Try.prog TB d 12 [.p (.sl (a0.map cTTerm)), .p (.sl (a1.map cTTerm))] G (.p (.bool r0)) (G) := by
  unfold m_ref03_Same at h
  refine Tel.intro mix Try.func12 rfl (Nat.le_of_ble_eq_true rfl) {frzAt := fun t => t == 25} (by kernel_rfl) (by kernel_rfl) ?_
  generalize hQ : callPost _ _ _ _ _ = Q
  rcases ib h with ⟨c1, h⟩ | ⟨c1, h⟩
  · cases h
    subst hQ
    simp -implicitDefEqProofs only [go_sem, Nat.reduceEqDiff, Nat.reduceAdd, Nat.reduceLT, Nat.reduceLeDiff, Nat.reduceMul, Nat.reduceBEq, reduceIte, c1, Try.results12]
  · simp -implicitDefEqProofs only [go_sem, Nat.reduceEqDiff, Nat.reduceAdd, Nat.reduceLT, Nat.reduceLeDiff, Nat.reduceMul, Nat.reduceBEq, reduceIte, c1]
    obtain ⟨z4, hL4, h⟩ := bs h
    obtain ⟨I4, hI4⟩ : ∃ I : Int → St → Prop, I = fun v5 s => s.G = cut d G ∧ s.F 0 = .p (.sl (a0.map cTTerm)) ∧ s.F 1 = .p (.sl (a1.map cTTerm)) ∧ s.F 5 = .p (.int .i64 v5) ∧ True := ⟨_, rfl⟩
    obtain ⟨R4, hR4⟩ : ∃ R : ((Unit) ⊕ (Bool)) → GE → St → Prop, R = fun x e s => match x with | .inl _ => e = .exit 0 ∧ s.G = cut d G ∧ True | .inr r => e = .ret ∧ (r = r0 → Q .ret s) := ⟨_, rfl⟩
    refine lp (ts := []) rfl hL4 I4 R4 ?_ ?_ ?_
    · rw [hI4]
      simp -implicitDefEqProofs only [go_sem, Nat.reduceEqDiff, Nat.reduceAdd, Nat.reduceLT, Nat.reduceLeDiff, Nat.reduceMul, Nat.reduceBEq, reduceIte, c1]
    · clear h hL4
      rintro v5 y s h i
      rw [hI4] at i
      obtain ⟨gi4, i4⟩ := i
      replace h : m_ref03_Same_L0 a0 a1 (v5) = some y := h
      unfold m_ref03_Same_L0 at h
      rcases ib h with ⟨c6, h⟩ | ⟨c6, h⟩
      · obtain ⟨v7, hv7, h⟩ := bs h
        replace hv7 := gis hv7
        obtain ⟨v8, hv8, h⟩ := bs h
        replace hv8 := gis hv8
        obtain ⟨r9, hr9, h⟩ := bs h
        simp -implicitDefEqProofs only [go_sem, Nat.reduceEqDiff, Nat.reduceAdd, Nat.reduceLT, Nat.reduceLeDiff, Nat.reduceMul, Nat.reduceBEq, reduceIte, c1, gi4, i4, c6, hv7, hv8]
        refine call_frz (r' := .p (.bool r9)) (m_ref02_Equal_ev v7 v8 r9 hr9 (d + 1) empty) (by simp -implicitDefEqProofs only [go_sem, Nat.reduceEqDiff, Nat.reduceAdd, Nat.reduceLT, Nat.reduceLeDiff, Nat.reduceMul, Nat.reduceBEq, reduceIte, c1, gi4, i4, c6, hv7, hv8]) rfl (by simp -implicitDefEqProofs only [go_sem, Nat.reduceEqDiff, Nat.reduceAdd, Nat.reduceLT, Nat.reduceLeDiff, Nat.reduceMul, Nat.reduceBEq, reduceIte]) (by simp -implicitDefEqProofs only [go_sem, Nat.reduceEqDiff, Nat.reduceAdd, Nat.reduceLT, Nat.reduceLeDiff, Nat.reduceMul, Nat.reduceBEq, reduceIte]) ?_ rfl rfl
        rcases ib h with ⟨c10, h⟩ | ⟨c10, h⟩
        · cases h
          simp -implicitDefEqProofs only [go_sem, Nat.reduceEqDiff, Nat.reduceAdd, Nat.reduceLT, Nat.reduceLeDiff, Nat.reduceMul, Nat.reduceBEq, reduceIte, c1, gi4, i4, c6, hv7, hv8, c10]
          rw [hR4]
          refine ⟨rfl, ?_⟩
          intro hr
          subst hr
          subst hQ
          simp -implicitDefEqProofs only [go_sem, Nat.reduceEqDiff, Nat.reduceAdd, Nat.reduceLT, Nat.reduceLeDiff, Nat.reduceMul, Nat.reduceBEq, reduceIte, c1, gi4, i4, c6, hv7, hv8, c10, Try.results12]
        · cases h
          simp -implicitDefEqProofs only [go_sem, Nat.reduceEqDiff, Nat.reduceAdd, Nat.reduceLT, Nat.reduceLeDiff, Nat.reduceMul, Nat.reduceBEq, reduceIte, c1, gi4, i4, c6, hv7, hv8, c10]
          rw [hI4]
          simp -implicitDefEqProofs only [go_sem, Nat.reduceEqDiff, Nat.reduceAdd, Nat.reduceLT, Nat.reduceLeDiff, Nat.reduceMul, Nat.reduceBEq, reduceIte, c1, gi4, i4, c6, hv7, hv8, c10]
      · cases h
        simp -implicitDefEqProofs only [go_sem, Nat.reduceEqDiff, Nat.reduceAdd, Nat.reduceLT, Nat.reduceLeDiff, Nat.reduceMul, Nat.reduceBEq, reduceIte, c1, gi4, i4, c6]
        rw [hR4]
        first | refine ⟨rfl, ?_⟩ | refine ⟨(), rfl, ?_⟩
        simp -implicitDefEqProofs only [go_sem, Nat.reduceEqDiff, Nat.reduceAdd, Nat.reduceLT, Nat.reduceLeDiff, Nat.reduceMul, Nat.reduceBEq, reduceIte, c1, gi4, i4, c6]
    · clear hL4 hI4
      intro e s hr4
      rw [hR4] at hr4
      clear hR4
      rcases z4 with _ | r
      · try dsimp only at h hr4
        obtain ⟨rfl, gi11, i11⟩ := hr4
        cases h
        subst hQ
        simp -implicitDefEqProofs only [go_sem, Nat.reduceEqDiff, Nat.reduceAdd, Nat.reduceLT, Nat.reduceLeDiff, Nat.reduceMul, Nat.reduceBEq, reduceIte, c1, gi11, i11, Try.results12]
      · try dsimp only at h hr4
        obtain ⟨rfl, hr4⟩ := hr4
        cases h
        try simp -implicitDefEqProofs only [go_sem, Nat.reduceEqDiff, Nat.reduceAdd, Nat.reduceLT, Nat.reduceLeDiff, Nat.reduceMul, Nat.reduceBEq, reduceIte]
        exact hr4 rfl
theorem m_ref03_Ints_ev (a0 : List Int) (a1 : List Int) (r0 : Bool) (h : m_ref03_Ints a0 a1 = some r0) (d : Nat) (G : Heap) : Tel Try.prog TB d 13 [.p (.sl (a0.map cii64)), .p (.sl (a1.map cii64))] G (.p (.bool r0)) (G) := by
  unfold m_ref03_Ints at h
  refine Tel.intro mix Try.func13 rfl (Nat.le_of_ble_eq_true rfl) {} (by kernel_rfl) (by kernel_rfl) ?_
  generalize hQ : callPost _ _ _ _ _ = Q
  rcases ib h with ⟨c1, h⟩ | ⟨c1, h⟩
  · cases h
    subst hQ
    simp -implicitDefEqProofs only [go_sem, Nat.reduceEqDiff, Nat.reduceAdd, Nat.reduceLT, Nat.reduceLeDiff, Nat.reduceMul, Nat.reduceBEq, reduceIte, c1, Try.results13]
  · simp -implicitDefEqProofs only [go_sem, Nat.reduceEqDiff, Nat.reduceAdd, Nat.reduceLT, Nat.reduceLeDiff, Nat.reduceMul, Nat.reduceBEq, reduceIte, c1]
    obtain ⟨z4, hL4, h⟩ := bs h
    obtain ⟨I4, hI4⟩ : ∃ I : Int → St → Prop, I = fun v5 s => s.G = cut d G ∧ s.F 0 = .p (.sl (a0.map cii64)) ∧ s.F 1 = .p (.sl (a1.map cii64)) ∧ s.F 5 = .p (.int .i64 v5) ∧ True := ⟨_, rfl⟩
    obtain ⟨R4, hR4⟩ : ∃ R : ((Unit) ⊕ (Bool)) → GE → St → Prop, R = fun x e s => match x with | .inl _ => e = .exit 0 ∧ s.G = cut d G ∧ True | .inr r => e = .ret ∧ (r = r0 → Q .ret s) := ⟨_, rfl⟩
    refine lp (ts := []) rfl hL4 I4 R4 ?_ ?_ ?_
    · rw [hI4]
      simp -implicitDefEqProofs only [go_sem, Nat.reduceEqDiff, Nat.reduceAdd, Nat.reduceLT, Nat.reduceLeDiff, Nat.reduceMul, Nat.reduceBEq, reduceIte, c1]
    · clear h hL4
      rintro v5 y s h i
      rw [hI4] at i
      obtain ⟨gi4, i4⟩ := i
      replace h : m_ref03_Ints_L0 a0 a1 (v5) = some y := h
      unfold m_ref03_Ints_L0 at h
      rcases ib h with ⟨c6, h⟩ | ⟨c6, h⟩
      · obtain ⟨v7, hv7, h⟩ := bs h
        replace hv7 := gis hv7
        obtain ⟨v8, hv8, h⟩ := bs h
        replace hv8 := gis hv8
        rcases ib h with ⟨c9, h⟩ | ⟨c9, h⟩
        · cases h
          simp -implicitDefEqProofs only [go_sem, Nat.reduceEqDiff, Nat.reduceAdd, Nat.reduceLT, Nat.reduceLeDiff, Nat.reduceMul, Nat.reduceBEq, reduceIte, c1, gi4, i4, c6, hv7, hv8, c9]
          rw [hR4]
          refine ⟨rfl, ?_⟩
          intro hr
          subst hr
          subst hQ
          simp -implicitDefEqProofs only [go_sem, Nat.reduceEqDiff, Nat.reduceAdd, Nat.reduceLT, Nat.reduceLeDiff, Nat.reduceMul, Nat.reduceBEq, reduceIte, c1, gi4, i4, c6, hv7, hv8, c9, Try.results13]
        · cases h
          simp -implicitDefEqProofs only [go_sem, Nat.reduceEqDiff, Nat.reduceAdd, Nat.reduceLT, Nat.reduceLeDiff, Nat.reduceMul, Nat.reduceBEq, reduceIte, c1, gi4, i4, c6, hv7, hv8, c9]
          rw [hI4]
          simp -implicitDefEqProofs only [go_sem, Nat.reduceEqDiff, Nat.reduceAdd, Nat.reduceLT, Nat.reduceLeDiff, Nat.reduceMul, Nat.reduceBEq, reduceIte, c1, gi4, i4, c6, hv7, hv8, c9]
      · cases h
        simp -implicitDefEqProofs only [go_sem, Nat.reduceEqDiff, Nat.reduceAdd, Nat.reduceLT, Nat.reduceLeDiff, Nat.reduceMul, Nat.reduceBEq, reduceIte, c1, gi4, i4, c6]
        rw [hR4]
        first | refine ⟨rfl, ?_⟩ | refine ⟨(), rfl, ?_⟩
        simp -implicitDefEqProofs only [go_sem, Nat.reduceEqDiff, Nat.reduceAdd, Nat.reduceLT, Nat.reduceLeDiff, Nat.reduceMul, Nat.reduceBEq, reduceIte, c1, gi4, i4, c6]
    · clear hL4 hI4
      intro e s hr4
      rw [hR4] at hr4
      clear hR4
      rcases z4 with _ | r
      · try dsimp only at h hr4
        obtain ⟨rfl, gi10, i10⟩ := hr4
        cases h
        subst hQ
        simp -implicitDefEqProofs only [go_sem, Nat.reduceEqDiff, Nat.reduceAdd, Nat.reduceLT, Nat.reduceLeDiff, Nat.reduceMul, Nat.reduceBEq, reduceIte, c1, gi10, i10, Try.results13]
      · try dsimp only at h hr4
        obtain ⟨rfl, hr4⟩ := hr4
        cases h
        try simp -implicitDefEqProofs only [go_sem, Nat.reduceEqDiff, Nat.reduceAdd, Nat.reduceLT, Nat.reduceLeDiff, Nat.reduceMul, Nat.reduceBEq, reduceIte]
        exact hr4 rfl
theorem m_slices_IndexFunc_api_Term_ev (a0 : List TTerm) (a1 : (TTerm → Option Bool)) (n1 : FuncId) (q1 : List GV) (hc1 : closeds q1) (hf1 : ∀ x0 r, a1 x0 = some r → ∀ d, Tel Try.prog TB d n1 ([.agg ((cTTerm x0).map .p)] ++ q1) empty (.p (.bool r)) empty) (r0 : Int) (h : m_slices_IndexFunc_api_Term a0 a1 = some r0) (d : Nat) (G : Heap) : Tel Try.prog TB d 33 [.p (.sl (a0.map cTTerm)), .fn n1 q1] G (.p (.int .i64 r0)) (G) := by
  unfold m_slices_IndexFunc_api_Term at h
  refine Tel.intro mix Try.func33 rfl (Nat.le_of_ble_eq_true rfl) {frzAt := fun t => t == 16} (by kernel_rfl) (by kernel_rfl) ?_
  generalize hQ : callPost _ _ _ _ _ = Q
  simp -implicitDefEqProofs only [go_sem, Nat.reduceEqDiff, Nat.reduceAdd, Nat.reduceLT, Nat.reduceLeDiff, Nat.reduceMul, Nat.reduceBEq, reduceIte]
  obtain ⟨z3, hL3, h⟩ := bs h
  obtain ⟨I3, hI3⟩ : ∃ I : Int → St → Prop, I = fun v4 s => s.G = cut d G ∧ s.F 0 = .p (.sl (a0.map cTTerm)) ∧ s.F 1 = .fn n1 q1 ∧ s.F 7 = .p (.int .i64 (a0.length : Int)) ∧ s.F 8 = .p (.int .i64 v4) ∧ True := ⟨_, rfl⟩
  obtain ⟨R3, hR3⟩ : ∃ R : ((Unit) ⊕ (Int)) → GE → St → Prop, R = fun x e s => match x with | .inl _ => e = .exit 0 ∧ s.G = cut d G ∧ True | .inr r => e = .ret ∧ (r = r0 → Q .ret s) := ⟨_, rfl⟩
  refine lp (ts := []) rfl hL3 I3 R3 ?_ ?_ ?_
  · rw [hI3]
    simp -implicitDefEqProofs only [go_sem, Nat.reduceEqDiff, Nat.reduceAdd, Nat.reduceLT, Nat.reduceLeDiff, Nat.reduceMul, Nat.reduceBEq, reduceIte]
  · clear h hL3
    rintro v4 y s h i
    rw [hI3] at i
    obtain ⟨gi3, i3⟩ := i
    replace h : m_slices_IndexFunc_api_Term_L0 a0 a1 (v4) = some y := h
    unfold m_slices_IndexFunc_api_Term_L0 at h
    rcases ib h with ⟨c5, h⟩ | ⟨c5, h⟩
    · obtain ⟨v6, hv6, h⟩ := bs h
      replace hv6 := gis hv6
      obtain ⟨r7, hr7, h⟩ := bs h
      simp -implicitDefEqProofs only [go_sem, Nat.reduceEqDiff, Nat.reduceAdd, Nat.reduceLT, Nat.reduceLeDiff, Nat.reduceMul, Nat.reduceBEq, reduceIte, gi3, i3, c5, hv6]
      refine call_frz (r' := .p (.bool r7)) (hf1 v6 r7 hr7 (d + 1)) (by simp -implicitDefEqProofs only [go_sem, Nat.reduceEqDiff, Nat.reduceAdd, Nat.reduceLT, Nat.reduceLeDiff, Nat.reduceMul, Nat.reduceBEq, reduceIte, gi3, i3, c5, hv6]) rfl (by simp -implicitDefEqProofs only [go_sem, Nat.reduceEqDiff, Nat.reduceAdd, Nat.reduceLT, Nat.reduceLeDiff, Nat.reduceMul, Nat.reduceBEq, reduceIte, hc1]) (by simp -implicitDefEqProofs only [go_sem, Nat.reduceEqDiff, Nat.reduceAdd, Nat.reduceLT, Nat.reduceLeDiff, Nat.reduceMul, Nat.reduceBEq, reduceIte]) ?_ rfl rfl
      rcases ib h with ⟨c8, h⟩ | ⟨c8, h⟩
      · cases h
        simp -implicitDefEqProofs only [go_sem, Nat.reduceEqDiff, Nat.reduceAdd, Nat.reduceLT, Nat.reduceLeDiff, Nat.reduceMul, Nat.reduceBEq, reduceIte, gi3, i3, c5, hv6, c8]
        rw [hR3]
        refine ⟨rfl, ?_⟩
        intro hr
        subst hr
        subst hQ
        simp -implicitDefEqProofs only [go_sem, Nat.reduceEqDiff, Nat.reduceAdd, Nat.reduceLT, Nat.reduceLeDiff, Nat.reduceMul, Nat.reduceBEq, reduceIte, gi3, i3, c5, hv6, c8, Try.results33]
      · cases h
        simp -implicitDefEqProofs only [go_sem, Nat.reduceEqDiff, Nat.reduceAdd, Nat.reduceLT, Nat.reduceLeDiff, Nat.reduceMul, Nat.reduceBEq, reduceIte, gi3, i3, c5, hv6, c8]
        rw [hI3]
        simp -implicitDefEqProofs only [go_sem, Nat.reduceEqDiff, Nat.reduceAdd, Nat.reduceLT, Nat.reduceLeDiff, Nat.reduceMul, Nat.reduceBEq, reduceIte, gi3, i3, c5, hv6, c8]
    · cases h
      simp -implicitDefEqProofs only [go_sem, Nat.reduceEqDiff, Nat.reduceAdd, Nat.reduceLT, Nat.reduceLeDiff, Nat.reduceMul, Nat.reduceBEq, reduceIte, gi3, i3, c5]
      rw [hR3]
      first | refine ⟨rfl, ?_⟩ | refine ⟨(), rfl, ?_⟩
      simp -implicitDefEqProofs only [go_sem, Nat.reduceEqDiff, Nat.reduceAdd, Nat.reduceLT, Nat.reduceLeDiff, Nat.reduceMul, Nat.reduceBEq, reduceIte, gi3, i3, c5]
  · clear hL3 hI3
    intro e s hr3
    rw [hR3] at hr3
    clear hR3
    rcases z3 with _ | r
    · try dsimp only at h hr3
      obtain ⟨rfl, gi9, i9⟩ := hr3
      cases h
      subst hQ
      simp -implicitDefEqProofs only [go_sem, Nat.reduceEqDiff, Nat.reduceAdd, Nat.reduceLT, Nat.reduceLeDiff, Nat.reduceMul, Nat.reduceBEq, reduceIte, gi9, i9, Try.results33]
    · try dsimp only at h hr3
      obtain ⟨rfl, hr3⟩ := hr3
      cases h
      try simp -implicitDefEqProofs only [go_sem, Nat.reduceEqDiff, Nat.reduceAdd, Nat.reduceLT, Nat.reduceLeDiff, Nat.reduceMul, Nat.reduceBEq, reduceIte]
      exact hr3 rfl
theorem m_slices_ContainsFunc_api_Term_ev (a0 : List TTerm) (a1 : (TTerm → Option Bool)) (n1 : FuncId) (q1 : List GV) (hc1 : closeds q1) (hf1 : ∀ x0 r, a1 x0 = some r → ∀ d, Tel Try.prog TB d n1 ([.agg ((cTTerm x0).map .p)] ++ q1) empty (.p (.bool r)) empty) (r0 : Bool) (h : m_slices_ContainsFunc_api_Term a0 a1 = some r0) (d : Nat) (G : Heap) : Tel Try.prog TB d 18 [.p (.sl (a0.map cTTerm)), .fn n1 q1] G (.p (.bool r0)) (G) := by
  unfold m_slices_ContainsFunc_api_Term at h
  refine Tel.intro mix Try.func18 rfl (Nat.le_of_ble_eq_true rfl) {frzAt := fun t => t == 7} (by kernel_rfl) (by kernel_rfl) ?_
  generalize hQ : callPost _ _ _ _ _ = Q
  obtain ⟨r1, hr1, h⟩ := bs h
  simp -implicitDefEqProofs only [go_sem, Nat.reduceEqDiff, Nat.reduceAdd, Nat.reduceLT, Nat.reduceLeDiff, Nat.reduceMul, Nat.reduceBEq, reduceIte]
  refine call_frz (r' := .p (.int .i64 r1)) (m_slices_IndexFunc_api_Term_ev a0 a1 n1 q1 hc1 hf1 r1 hr1 (d + 1) empty) (by simp -implicitDefEqProofs only [go_sem, Nat.reduceEqDiff, Nat.reduceAdd, Nat.reduceLT, Nat.reduceLeDiff, Nat.reduceMul, Nat.reduceBEq, reduceIte]) rfl (by simp -implicitDefEqProofs only [go_sem, Nat.reduceEqDiff, Nat.reduceAdd, Nat.reduceLT, Nat.reduceLeDiff, Nat.reduceMul, Nat.reduceBEq, reduceIte, hc1]) (by simp -implicitDefEqProofs only [go_sem, Nat.reduceEqDiff, Nat.reduceAdd, Nat.reduceLT, Nat.reduceLeDiff, Nat.reduceMul, Nat.reduceBEq, reduceIte]) ?_ rfl rfl
  cases h
  subst hQ
  simp -implicitDefEqProofs only [go_sem, Nat.reduceEqDiff, Nat.reduceAdd, Nat.reduceLT, Nat.reduceLeDiff, Nat.reduceMul, Nat.reduceBEq, reduceIte, Try.results18]
theorem m_slices_Index_int_ev (a0 : List Int) (a1 : Int) (r0 : Int) (h : m_slices_Index_int a0 a1 = some r0) (d : Nat) (G : Heap) : Tel Try.prog TB d 48 [.p (.sl (a0.map cii64)), .p (.int .i64 a1)] G (.p (.int .i64 r0)) (G) := by
  unfold m_slices_Index_int at h
  refine Tel.intro mix Try.func48 rfl (Nat.le_of_ble_eq_true rfl) {} (by kernel_rfl) (by kernel_rfl) ?_
  generalize hQ : callPost _ _ _ _ _ = Q
  simp -implicitDefEqProofs only [go_sem, Nat.reduceEqDiff, Nat.reduceAdd, Nat.reduceLT, Nat.reduceLeDiff, Nat.reduceMul, Nat.reduceBEq, reduceIte]
  obtain ⟨z3, hL3, h⟩ := bs h
  obtain ⟨I3, hI3⟩ : ∃ I : Int → St → Prop, I = fun v4 s => s.G = cut d G ∧ s.F 0 = .p (.sl (a0.map cii64)) ∧ s.F 1 = .p (.int .i64 a1) ∧ s.F 7 = .p (.int .i64 (a0.length : Int)) ∧ s.F 8 = .p (.int .i64 v4) ∧ True := ⟨_, rfl⟩
  obtain ⟨R3, hR3⟩ : ∃ R : ((Unit) ⊕ (Int)) → GE → St → Prop, R = fun x e s => match x with | .inl _ => e = .exit 0 ∧ s.G = cut d G ∧ True | .inr r => e = .ret ∧ (r = r0 → Q .ret s) := ⟨_, rfl⟩
  refine lp (ts := []) rfl hL3 I3 R3 ?_ ?_ ?_
  · rw [hI3]
    simp -implicitDefEqProofs only [go_sem, Nat.reduceEqDiff, Nat.reduceAdd, Nat.reduceLT, Nat.reduceLeDiff, Nat.reduceMul, Nat.reduceBEq, reduceIte]
  · clear h hL3
    rintro v4 y s h i
    rw [hI3] at i
    obtain ⟨gi3, i3⟩ := i
    replace h : m_slices_Index_int_L0 a0 a1 (v4) = some y := h
    unfold m_slices_Index_int_L0 at h
    rcases ib h with ⟨c5, h⟩ | ⟨c5, h⟩
    · obtain ⟨v6, hv6, h⟩ := bs h
      replace hv6 := gis hv6
      rcases ib h with ⟨c7, h⟩ | ⟨c7, h⟩
      · cases h
        simp -implicitDefEqProofs only [go_sem, Nat.reduceEqDiff, Nat.reduceAdd, Nat.reduceLT, Nat.reduceLeDiff, Nat.reduceMul, Nat.reduceBEq, reduceIte, gi3, i3, c5, hv6, c7]
        rw [hR3]
        refine ⟨rfl, ?_⟩
        intro hr
        subst hr
        subst hQ
        simp -implicitDefEqProofs only [go_sem, Nat.reduceEqDiff, Nat.reduceAdd, Nat.reduceLT, Nat.reduceLeDiff, Nat.reduceMul, Nat.reduceBEq, reduceIte, gi3, i3, c5, hv6, c7, Try.results48]
      · cases h
        simp -implicitDefEqProofs only [go_sem, Nat.reduceEqDiff, Nat.reduceAdd, Nat.reduceLT, Nat.reduceLeDiff, Nat.reduceMul, Nat.reduceBEq, reduceIte, gi3, i3, c5, hv6, c7]
        rw [hI3]
        simp -implicitDefEqProofs only [go_sem, Nat.reduceEqDiff, Nat.reduceAdd, Nat.reduceLT, Nat.reduceLeDiff, Nat.reduceMul, Nat.reduceBEq, reduceIte, gi3, i3, c5, hv6, c7]
    · cases h
      simp -implicitDefEqProofs only [go_sem, Nat.reduceEqDiff, Nat.reduceAdd, Nat.reduceLT, Nat.reduceLeDiff, Nat.reduceMul, Nat.reduceBEq, reduceIte, gi3, i3, c5]
      rw [hR3]
      first | refine ⟨rfl, ?_⟩ | refine ⟨(), rfl, ?_⟩
      simp -implicitDefEqProofs only [go_sem, Nat.reduceEqDiff, Nat.reduceAdd, Nat.reduceLT, Nat.reduceLeDiff, Nat.reduceMul, Nat.reduceBEq, reduceIte, gi3, i3, c5]
  · clear hL3 hI3
    intro e s hr3
    rw [hR3] at hr3
    clear hR3
    rcases z3 with _ | r
    · try dsimp only at h hr3
      obtain ⟨rfl, gi8, i8⟩ := hr3
      cases h
      subst hQ
      simp -implicitDefEqProofs only [go_sem, Nat.reduceEqDiff, Nat.reduceAdd, Nat.reduceLT, Nat.reduceLeDiff, Nat.reduceMul, Nat.reduceBEq, reduceIte, gi8, i8, Try.results48]
    · try dsimp only at h hr3
      obtain ⟨rfl, hr3⟩ := hr3
      cases h
      try simp -implicitDefEqProofs only [go_sem, Nat.reduceEqDiff, Nat.reduceAdd, Nat.reduceLT, Nat.reduceLeDiff, Nat.reduceMul, Nat.reduceBEq, reduceIte]
      exact hr3 rfl
theorem m_slices_Contains_int_ev (a0 : List Int) (a1 : Int) (r0 : Bool) (h : m_slices_Contains_int a0 a1 = some r0) (d : Nat) (G : Heap) : Tel Try.prog TB d 31 [.p (.sl (a0.map cii64)), .p (.int .i64 a1)] G (.p (.bool r0)) (G) := by
  unfold m_slices_Contains_int at h
  refine Tel.intro mix Try.func31 rfl (Nat.le_of_ble_eq_true rfl) {frzAt := fun t => t == 7} (by kernel_rfl) (by kernel_rfl) ?_
  generalize hQ : callPost _ _ _ _ _ = Q
  obtain ⟨r1, hr1, h⟩ := bs h
  simp -implicitDefEqProofs only [go_sem, Nat.reduceEqDiff, Nat.reduceAdd, Nat.reduceLT, Nat.reduceLeDiff, Nat.reduceMul, Nat.reduceBEq, reduceIte]
  refine call_frz (r' := .p (.int .i64 r1)) (m_slices_Index_int_ev a0 a1 r1 hr1 (d + 1) empty) (by simp -implicitDefEqProofs only [go_sem, Nat.reduceEqDiff, Nat.reduceAdd, Nat.reduceLT, Nat.reduceLeDiff, Nat.reduceMul, Nat.reduceBEq, reduceIte]) rfl (by simp -implicitDefEqProofs only [go_sem, Nat.reduceEqDiff, Nat.reduceAdd, Nat.reduceLT, Nat.reduceLeDiff, Nat.reduceMul, Nat.reduceBEq, reduceIte]) (by simp -implicitDefEqProofs only [go_sem, Nat.reduceEqDiff, Nat.reduceAdd, Nat.reduceLT, Nat.reduceLeDiff, Nat.reduceMul, Nat.reduceBEq, reduceIte]) ?_ rfl rfl
  cases h
  subst hQ
  simp -implicitDefEqProofs only [go_sem, Nat.reduceEqDiff, Nat.reduceAdd, Nat.reduceLT, Nat.reduceLeDiff, Nat.reduceMul, Nat.reduceBEq, reduceIte, Try.results31]
theorem m_gauss_Free_ev (a0 : List Int) (r0 : (List Int)) (h : m_gauss_Free a0 = some r0) (d : Nat) (G : Heap) : Tel Try.prog TB d 15 [.p (.sl (a0.map cii64))] G (.p (.sl (r0.map cii64))) (G) := by
  unfold m_gauss_Free at h
  refine Tel.intro mix Try.func15 rfl (Nat.le_of_ble_eq_true rfl) {frzAt := fun t => t == 10} (by kernel_rfl) (by kernel_rfl) ?_
  generalize hQ : callPost _ _ _ _ _ = Q
  simp -implicitDefEqProofs only [go_sem, Nat.reduceEqDiff, Nat.reduceAdd, Nat.reduceLT, Nat.reduceLeDiff, Nat.reduceMul, Nat.reduceBEq, reduceIte]
  obtain ⟨z7, hL7, h⟩ := bs h
  obtain ⟨I7, hI7⟩ : ∃ I : ((List Int) × Int) → St → Prop, I = fun a s => match a with | (v8, v10) => ∃ o9, s.G = fillKey (cut d G) (d + 1) 15 (growO o9 15 1 (v8.map cii64)) ∧ growOK o9 [15] ∧ s.F 0 = .p (.sl (a0.map cii64)) ∧ s.F 3 = growV o9 (d + 1) (v8.map cii64) ∧ s.F 5 = .p (.int .i64 v10) ∧ True := ⟨_, rfl⟩
  obtain ⟨R7, hR7⟩ : ∃ R : ((List Int)) → GE → St → Prop, R = fun v11 e s => e = .exit 0 ∧ (∃ o12, s.G = fillKey (cut d G) (d + 1) 15 (growO o12 15 1 (v11.map cii64)) ∧ growOK o12 [15] ∧ s.F 3 = growV o12 (d + 1) (v11.map cii64) ∧ True) := ⟨_, rfl⟩
  refine lp (ts := []) rfl hL7 I7 R7 ?_ ?_ ?_
  · rw [hI7]
    refine ⟨none, ?_⟩
    simp -implicitDefEqProofs only [go_sem, Nat.reduceEqDiff, Nat.reduceAdd, Nat.reduceLT, Nat.reduceLeDiff, Nat.reduceMul, Nat.reduceBEq, reduceIte]
  · clear h hL7
    rintro ⟨v8, v10⟩ y s h i
    rw [hI7] at i
    obtain ⟨o9, gi7, ko9, i7⟩ := i
    replace h : m_gauss_Free_L0 a0 (v8, v10) = some y := h
    unfold m_gauss_Free_L0 at h
    rcases ib h with ⟨c13, h⟩ | ⟨c13, h⟩
    · obtain ⟨r14, hr14, h⟩ := bs h
      simp -implicitDefEqProofs only [go_sem, Nat.reduceEqDiff, Nat.reduceAdd, Nat.reduceLT, Nat.reduceLeDiff, Nat.reduceMul, Nat.reduceBEq, reduceIte, gi7, ko9, i7, c13]
      refine call_frz (r' := .p (.bool r14)) (m_slices_Contains_int_ev a0 v10 r14 hr14 (d + 1) empty) (by simp -implicitDefEqProofs only [go_sem, Nat.reduceEqDiff, Nat.reduceAdd, Nat.reduceLT, Nat.reduceLeDiff, Nat.reduceMul, Nat.reduceBEq, reduceIte, gi7, ko9, i7, c13]) rfl (by simp -implicitDefEqProofs only [go_sem, Nat.reduceEqDiff, Nat.reduceAdd, Nat.reduceLT, Nat.reduceLeDiff, Nat.reduceMul, Nat.reduceBEq, reduceIte]) (by simp -implicitDefEqProofs only [go_sem, Nat.reduceEqDiff, Nat.reduceAdd, Nat.reduceLT, Nat.reduceLeDiff, Nat.reduceMul, Nat.reduceBEq, reduceIte]) ?_ rfl rfl
      simp -implicitDefEqProofs only [go_sem, Nat.reduceEqDiff, Nat.reduceAdd, Nat.reduceLT, Nat.reduceLeDiff, Nat.reduceMul, Nat.reduceBEq, reduceIte, gi7, ko9, i7, c13]
      obtain ⟨v15, hz, h⟩ := bs h
      obtain ⟨R17, hR17⟩ : ∃ R : St → Prop, R = fun s => ∃ o16, s.G = fillKey (cut d G) (d + 1) 15 (growO o16 15 1 (v15.map cii64)) ∧ growOK o16 [15] ∧ s.F 0 = .p (.sl (a0.map cii64)) ∧ s.F 3 = growV o16 (d + 1) (v15.map cii64) ∧ s.F 5 = .p (.int .i64 v10) ∧ True := ⟨_, rfl⟩
      refine cutG R17 ?_ ?_
      · replace h := hz
        rcases ib h with ⟨c18, h⟩ | ⟨c18, h⟩
        · obtain ⟨_, c19, h⟩ := bs h
          replace c19 := rqs c19
          simp -implicitDefEqProofs only [go_sem, Nat.reduceEqDiff, Nat.reduceAdd, Nat.reduceLT, Nat.reduceLeDiff, Nat.reduceMul, Nat.reduceBEq, reduceIte, gi7, ko9, i7, c13, c18, c19]
          refine append_G (o := o9) (ts := [15]) (es := (v8 : List Int).map cii64) (xs := ([v10] : List Int).map cii64) (ho := growOK.sub ko9 (by decide)) (hG := by simp -implicitDefEqProofs only [go_sem, Nat.reduceEqDiff, Nat.reduceAdd, Nat.reduceLT, Nat.reduceLeDiff, Nat.reduceMul, Nat.reduceBEq, reduceIte, gi7, ko9, i7, c13, c18, c19]) (hj := by simp -implicitDefEqProofs only [go_sem, Nat.reduceEqDiff, Nat.reduceAdd, Nat.reduceLT, Nat.reduceLeDiff, Nat.reduceMul, Nat.reduceBEq, reduceIte]) (he := el25) (hx := by simp -implicitDefEqProofs only [go_sem, Nat.reduceEqDiff, Nat.reduceAdd, Nat.reduceLT, Nat.reduceLeDiff, Nat.reduceMul, Nat.reduceBEq, reduceIte, gi7, ko9, i7, c13, c18, c19]) (h1 := by simp -implicitDefEqProofs only [go_sem, Nat.reduceEqDiff, Nat.reduceAdd, Nat.reduceLT, Nat.reduceLeDiff, Nat.reduceMul, Nat.reduceBEq, reduceIte]) (h2 := by simp -implicitDefEqProofs only [go_sem, Nat.reduceEqDiff, Nat.reduceAdd, Nat.reduceLT, Nat.reduceLeDiff, Nat.reduceMul, Nat.reduceBEq, reduceIte]) (ha := rfl) (hra := rfl) (hb := by simpa using c19) (hbb := by decide) ?_
          intro o20 ko20
          cases h
          simp -implicitDefEqProofs only [go_sem, Nat.reduceEqDiff, Nat.reduceAdd, Nat.reduceLT, Nat.reduceLeDiff, Nat.reduceMul, Nat.reduceBEq, reduceIte, gi7, ko9, i7, c13, c18, c19, ko20]
          rw [hR17]
          refine ⟨o20, ?_⟩
          simp -implicitDefEqProofs only [go_sem, Nat.reduceEqDiff, Nat.reduceAdd, Nat.reduceLT, Nat.reduceLeDiff, Nat.reduceMul, Nat.reduceBEq, reduceIte, gi7, ko9, i7, c13, c18, c19, ko20]
        · cases h
          simp -implicitDefEqProofs only [go_sem, Nat.reduceEqDiff, Nat.reduceAdd, Nat.reduceLT, Nat.reduceLeDiff, Nat.reduceMul, Nat.reduceBEq, reduceIte, gi7, ko9, i7, c13, c18]
          rw [hR17]
          refine ⟨o9, ?_⟩
          simp -implicitDefEqProofs only [go_sem, Nat.reduceEqDiff, Nat.reduceAdd, Nat.reduceLT, Nat.reduceLeDiff, Nat.reduceMul, Nat.reduceBEq, reduceIte, gi7, ko9, i7, c13, c18]
      · replace h := h; clear hz
        rintro s i
        rw [hR17] at i
        obtain ⟨o16, gi21, ko16, i21⟩ := i
        clear hR17
        try dsimp only at h
        cases h
        simp -implicitDefEqProofs only [go_sem, Nat.reduceEqDiff, Nat.reduceAdd, Nat.reduceLT, Nat.reduceLeDiff, Nat.reduceMul, Nat.reduceBEq, reduceIte, gi7, ko9, i7, c13, gi21, ko16, i21]
        rw [hI7]
        refine ⟨o16, ?_⟩
        simp -implicitDefEqProofs only [go_sem, Nat.reduceEqDiff, Nat.reduceAdd, Nat.reduceLT, Nat.reduceLeDiff, Nat.reduceMul, Nat.reduceBEq, reduceIte, gi7, ko9, i7, c13, gi21, ko16, i21]
    · cases h
      simp -implicitDefEqProofs only [go_sem, Nat.reduceEqDiff, Nat.reduceAdd, Nat.reduceLT, Nat.reduceLeDiff, Nat.reduceMul, Nat.reduceBEq, reduceIte, gi7, ko9, i7, c13]
      rw [hR7]
      first | refine ⟨rfl, o9, ?_⟩ | refine ⟨(), rfl, o9, ?_⟩
      simp -implicitDefEqProofs only [go_sem, Nat.reduceEqDiff, Nat.reduceAdd, Nat.reduceLT, Nat.reduceLeDiff, Nat.reduceMul, Nat.reduceBEq, reduceIte, gi7, ko9, i7, c13]
  · clear hL7 hI7
    intro e s hr7
    rw [hR7] at hr7
    clear hR7
    revert h hr7
    generalize z7 = v11
    intro h hr7
    try dsimp only at h hr7
    obtain ⟨rfl, o12, gi22, ko12, i22⟩ := hr7
    cases h
    subst hQ
    simp -implicitDefEqProofs only [go_sem, Nat.reduceEqDiff, Nat.reduceAdd, Nat.reduceLT, Nat.reduceLeDiff, Nat.reduceMul, Nat.reduceBEq, reduceIte, gi22, ko12, i22, Try.results15]
theorem m_gauss_Solve_1_ev (a0 : TTerm) (r0 : Bool) (h : m_gauss_Solve_1 a0 = some r0) (d : Nat) (G : Heap) : Tel Try.prog TB d 19 [.agg ((cTTerm a0).map .p)] G (.p (.bool r0)) (G) := by
  unfold m_gauss_Solve_1 at h
  refine Tel.intro mix Try.func19 rfl (Nat.le_of_ble_eq_true rfl) {frzAt := fun t => t == 1 || t == 4} (by kernel_rfl) (by kernel_rfl) ?_
  generalize hQ : callPost _ _ _ _ _ = Q
  obtain ⟨r1, hr1, h⟩ := bs h
  simp -implicitDefEqProofs only [go_sem, Nat.reduceEqDiff, Nat.reduceAdd, Nat.reduceLT, Nat.reduceLeDiff, Nat.reduceMul, Nat.reduceBEq, reduceIte]
  refine call_frz (r' := .p (.bool r1)) (m_term_Right_ev a0 r1 hr1 (d + 1) empty) (by simp -implicitDefEqProofs only [go_sem, Nat.reduceEqDiff, Nat.reduceAdd, Nat.reduceLT, Nat.reduceLeDiff, Nat.reduceMul, Nat.reduceBEq, reduceIte]) rfl (by simp -implicitDefEqProofs only [go_sem, Nat.reduceEqDiff, Nat.reduceAdd, Nat.reduceLT, Nat.reduceLeDiff, Nat.reduceMul, Nat.reduceBEq, reduceIte]) (by simp -implicitDefEqProofs only [go_sem, Nat.reduceEqDiff, Nat.reduceAdd, Nat.reduceLT, Nat.reduceLeDiff, Nat.reduceMul, Nat.reduceBEq, reduceIte]) ?_ rfl rfl
  cases h
  subst hQ
  simp -implicitDefEqProofs only [go_sem, Nat.reduceEqDiff, Nat.reduceAdd, Nat.reduceLT, Nat.reduceLeDiff, Nat.reduceMul, Nat.reduceBEq, reduceIte, Try.results19]
theorem m_gauss_Solve_2_ev (a0 : TGauss_row) (a1 : TGauss_row) (r0 : Int) (h : m_gauss_Solve_2 a0 a1 = some r0) (d : Nat) (G : Heap) : Tel Try.prog TB d 24 [.agg ((cTGauss_row a0).map .p), .agg ((cTGauss_row a1).map .p)] G (.p (.int .i64 r0)) (G) := by
  unfold m_gauss_Solve_2 at h
  refine Tel.intro mix Try.func24 rfl (Nat.le_of_ble_eq_true rfl) {frzAt := fun t => t == 2 || t == 3} (by kernel_rfl) (by kernel_rfl) ?_
  generalize hQ : callPost _ _ _ _ _ = Q
  cases h
  subst hQ
  simp -implicitDefEqProofs only [go_sem, Nat.reduceEqDiff, Nat.reduceAdd, Nat.reduceLT, Nat.reduceLeDiff, Nat.reduceMul, Nat.reduceBEq, reduceIte, Try.results24]
theorem m_law03_small_ev (a0 : List TTerm) (r0 : Bool) (h : m_law03_small a0 = some r0) (d : Nat) (G : Heap) : Tel Try.prog TB d 9 [.p (.sl (a0.map cTTerm))] G (.p (.bool r0)) (G) := by
  unfold m_law03_small at h
  refine Tel.intro mix Try.func9 rfl (Nat.le_of_ble_eq_true rfl) {frzAt := fun t => t == 14} (by kernel_rfl) (by kernel_rfl) ?_
  generalize hQ : callPost _ _ _ _ _ = Q
  simp -implicitDefEqProofs only [go_sem, Nat.reduceEqDiff, Nat.reduceAdd, Nat.reduceLT, Nat.reduceLeDiff, Nat.reduceMul, Nat.reduceBEq, reduceIte]
  obtain ⟨z3, hL3, h⟩ := bs h
  obtain ⟨I3, hI3⟩ : ∃ I : Int → St → Prop, I = fun v4 s => s.G = cut d G ∧ s.F 0 = .p (.sl (a0.map cTTerm)) ∧ s.F 3 = .p (.int .i64 v4) ∧ True := ⟨_, rfl⟩
  obtain ⟨R3, hR3⟩ : ∃ R : ((Unit) ⊕ (Bool)) → GE → St → Prop, R = fun x e s => match x with | .inl _ => e = .exit 0 ∧ s.G = cut d G ∧ s.F 0 = .p (.sl (a0.map cTTerm)) ∧ True | .inr r => e = .ret ∧ (r = r0 → Q .ret s) := ⟨_, rfl⟩
  refine lp (ts := []) rfl hL3 I3 R3 ?_ ?_ ?_
  · rw [hI3]
    simp -implicitDefEqProofs only [go_sem, Nat.reduceEqDiff, Nat.reduceAdd, Nat.reduceLT, Nat.reduceLeDiff, Nat.reduceMul, Nat.reduceBEq, reduceIte]
  · clear h hL3
    rintro v4 y s h i
    rw [hI3] at i
    obtain ⟨gi3, i3⟩ := i
    replace h : m_law03_small_L0 a0 (v4) = some y := h
    unfold m_law03_small_L0 at h
    rcases ib h with ⟨c5, h⟩ | ⟨c5, h⟩
    · obtain ⟨v6, hv6, h⟩ := bs h
      replace hv6 := gis hv6
      obtain ⟨r7, hr7, h⟩ := bs h
      simp -implicitDefEqProofs only [go_sem, Nat.reduceEqDiff, Nat.reduceAdd, Nat.reduceLT, Nat.reduceLeDiff, Nat.reduceMul, Nat.reduceBEq, reduceIte, gi3, i3, c5, hv6]
      refine call_frz (r' := .p (.bool r7)) (m_ref02_Small_ev v6 r7 hr7 (d + 1) empty) (by simp -implicitDefEqProofs only [go_sem, Nat.reduceEqDiff, Nat.reduceAdd, Nat.reduceLT, Nat.reduceLeDiff, Nat.reduceMul, Nat.reduceBEq, reduceIte, gi3, i3, c5, hv6]) rfl (by simp -implicitDefEqProofs only [go_sem, Nat.reduceEqDiff, Nat.reduceAdd, Nat.reduceLT, Nat.reduceLeDiff, Nat.reduceMul, Nat.reduceBEq, reduceIte]) (by simp -implicitDefEqProofs only [go_sem, Nat.reduceEqDiff, Nat.reduceAdd, Nat.reduceLT, Nat.reduceLeDiff, Nat.reduceMul, Nat.reduceBEq, reduceIte]) ?_ rfl rfl
      rcases ib h with ⟨c8, h⟩ | ⟨c8, h⟩
      · cases h
        simp -implicitDefEqProofs only [go_sem, Nat.reduceEqDiff, Nat.reduceAdd, Nat.reduceLT, Nat.reduceLeDiff, Nat.reduceMul, Nat.reduceBEq, reduceIte, gi3, i3, c5, hv6, c8]
        rw [hR3]
        refine ⟨rfl, ?_⟩
        intro hr
        subst hr
        subst hQ
        simp -implicitDefEqProofs only [go_sem, Nat.reduceEqDiff, Nat.reduceAdd, Nat.reduceLT, Nat.reduceLeDiff, Nat.reduceMul, Nat.reduceBEq, reduceIte, gi3, i3, c5, hv6, c8, Try.results9]
      · cases h
        simp -implicitDefEqProofs only [go_sem, Nat.reduceEqDiff, Nat.reduceAdd, Nat.reduceLT, Nat.reduceLeDiff, Nat.reduceMul, Nat.reduceBEq, reduceIte, gi3, i3, c5, hv6, c8]
        rw [hI3]
        simp -implicitDefEqProofs only [go_sem, Nat.reduceEqDiff, Nat.reduceAdd, Nat.reduceLT, Nat.reduceLeDiff, Nat.reduceMul, Nat.reduceBEq, reduceIte, gi3, i3, c5, hv6, c8]
    · cases h
      simp -implicitDefEqProofs only [go_sem, Nat.reduceEqDiff, Nat.reduceAdd, Nat.reduceLT, Nat.reduceLeDiff, Nat.reduceMul, Nat.reduceBEq, reduceIte, gi3, i3, c5]
      rw [hR3]
      first | refine ⟨rfl, ?_⟩ | refine ⟨(), rfl, ?_⟩
      simp -implicitDefEqProofs only [go_sem, Nat.reduceEqDiff, Nat.reduceAdd, Nat.reduceLT, Nat.reduceLeDiff, Nat.reduceMul, Nat.reduceBEq, reduceIte, gi3, i3, c5]
  · clear hL3 hI3
    intro e s hr3
    rw [hR3] at hr3
    clear hR3
    rcases z3 with _ | r
    · try dsimp only at h hr3
      obtain ⟨rfl, gi9, i9⟩ := hr3
      cases h
      subst hQ
      simp -implicitDefEqProofs only [go_sem, Nat.reduceEqDiff, Nat.reduceAdd, Nat.reduceLT, Nat.reduceLeDiff, Nat.reduceMul, Nat.reduceBEq, reduceIte, gi9, i9, Try.results9]
    · try dsimp only at h hr3
      obtain ⟨rfl, hr3⟩ := hr3
      cases h
      try simp -implicitDefEqProofs only [go_sem, Nat.reduceEqDiff, Nat.reduceAdd, Nat.reduceLT, Nat.reduceLeDiff, Nat.reduceMul, Nat.reduceBEq, reduceIte]
      exact hr3 rfl
theorem m_law03_zeros_ev (a0 : List TTerm) (a1 : List TRat) (r0 : Bool × Bool) (h : m_law03_zeros a0 a1 = some r0) (d : Nat) (G : Heap) : Tel Try.prog TB d 14 [.p (.sl (a0.map cTTerm)), .p (.sl (a1.map cTRat))] G (.tup [.p (.bool r0.1), .p (.bool r0.2)]) (G) := by
  unfold m_law03_zeros at h
  refine Tel.intro mix Try.func14 rfl (Nat.le_of_ble_eq_true rfl) {frzAt := fun t => t == 22, clean := fun r => if r = 3 then [8] else []} (by kernel_rfl) (by kernel_rfl) ?_
  generalize hQ : callPost _ _ _ _ _ = Q
  simp -implicitDefEqProofs only [go_sem, Nat.reduceEqDiff, Nat.reduceAdd, Nat.reduceLT, Nat.reduceLeDiff, Nat.reduceMul, Nat.reduceBEq, reduceIte]
  obtain ⟨z5, hL5, h⟩ := bs h
  obtain ⟨I5, hI5⟩ : ∃ I : (Bool × Int) → St → Prop, I = fun a s => match a with | (v6, v7) => s.G = cut d G ∧ s.F 0 = .p (.sl (a0.map cTTerm)) ∧ s.F 1 = .p (.sl (a1.map cTRat)) ∧ s.F 6 = .p (.bool v6) ∧ s.F 7 = .p (.int .i64 v7) ∧ True := ⟨_, rfl⟩
  obtain ⟨R5, hR5⟩ : ∃ R : ((Bool) ⊕ (Bool × Bool)) → GE → St → Prop, R = fun x e s => match x with | .inl v8 => e = .exit 0 ∧ s.G = cut d G ∧ s.F 6 = .p (.bool v8) ∧ True | .inr r => e = .ret ∧ (r = r0 → Q .ret s) := ⟨_, rfl⟩
  refine lp (ts := [8]) rfl hL5 I5 R5 ?_ ?_ ?_
  · rw [hI5]
    simp -implicitDefEqProofs only [go_sem, Nat.reduceEqDiff, Nat.reduceAdd, Nat.reduceLT, Nat.reduceLeDiff, Nat.reduceMul, Nat.reduceBEq, reduceIte]
  · clear h hL5
    rintro ⟨v6, v7⟩ y s h i
    rw [hI5] at i
    obtain ⟨gi5, i5⟩ := i
    replace h : m_law03_zeros_L0 a0 a1 (v6, v7) = some y := h
    unfold m_law03_zeros_L0 at h
    rcases ib h with ⟨c9, h⟩ | ⟨c9, h⟩
    · obtain ⟨v10, hv10, h⟩ := bs h
      replace hv10 := gis hv10
      obtain ⟨r11, hr11, h⟩ := bs h
      simp -implicitDefEqProofs only [go_sem, Nat.reduceEqDiff, Nat.reduceAdd, Nat.reduceLT, Nat.reduceLeDiff, Nat.reduceMul, Nat.reduceBEq, reduceIte, gi5, i5, c9, hv10]
      refine call_frz (r' := .tup [.agg [.p (.int .i64 r11.1.f0), .p (.int .i64 r11.1.f1)], .p (.int .i64 r11.2)]) (m_ref02_Value_ev v10 a1 r11 hr11 (d + 1) empty) (by simp -implicitDefEqProofs only [go_sem, Nat.reduceEqDiff, Nat.reduceAdd, Nat.reduceLT, Nat.reduceLeDiff, Nat.reduceMul, Nat.reduceBEq, reduceIte, gi5, i5, c9, hv10]) rfl (by simp -implicitDefEqProofs only [go_sem, Nat.reduceEqDiff, Nat.reduceAdd, Nat.reduceLT, Nat.reduceLeDiff, Nat.reduceMul, Nat.reduceBEq, reduceIte]) (by simp -implicitDefEqProofs only [go_sem, Nat.reduceEqDiff, Nat.reduceAdd, Nat.reduceLT, Nat.reduceLeDiff, Nat.reduceMul, Nat.reduceBEq, reduceIte]) ?_ rfl rfl
      rcases ib h with ⟨c12, h⟩ | ⟨c12, h⟩
      · cases h
        simp -implicitDefEqProofs only [go_sem, Nat.reduceEqDiff, Nat.reduceAdd, Nat.reduceLT, Nat.reduceLeDiff, Nat.reduceMul, Nat.reduceBEq, reduceIte, gi5, i5, c9, hv10, c12]
        rw [hR5]
        refine ⟨rfl, ?_⟩
        intro hr
        subst hr
        subst hQ
        simp -implicitDefEqProofs only [go_sem, Nat.reduceEqDiff, Nat.reduceAdd, Nat.reduceLT, Nat.reduceLeDiff, Nat.reduceMul, Nat.reduceBEq, reduceIte, gi5, i5, c9, hv10, c12, Try.results14]
      · simp -implicitDefEqProofs only [go_sem, Nat.reduceEqDiff, Nat.reduceAdd, Nat.reduceLT, Nat.reduceLeDiff, Nat.reduceMul, Nat.reduceBEq, reduceIte, gi5, i5, c9, hv10, c12]
        obtain ⟨v13, hz, h⟩ := bs h
        obtain ⟨R14, hR14⟩ : ∃ R : St → Prop, R = fun s => s.G = fillKey (cut d G) (d + 1) 8 [.box [.p (.int .i64 r11.1.f0), .p (.int .i64 r11.1.f1)]] ∧ s.F 0 = .p (.sl (a0.map cTTerm)) ∧ s.F 1 = .p (.sl (a1.map cTRat)) ∧ s.F 6 = .p (.bool v13) ∧ s.F 7 = .p (.int .i64 v7) ∧ True := ⟨_, rfl⟩
        refine cutR R14 ?_ ?_
        · replace h := hz
          rcases ib h with ⟨c15, h⟩ | ⟨c15, h⟩
          · cases h
            simp -implicitDefEqProofs only [go_sem, Nat.reduceEqDiff, Nat.reduceAdd, Nat.reduceLT, Nat.reduceLeDiff, Nat.reduceMul, Nat.reduceBEq, reduceIte, gi5, i5, c9, hv10, c12, c15]
            rw [hR14]
            simp -implicitDefEqProofs only [go_sem, Nat.reduceEqDiff, Nat.reduceAdd, Nat.reduceLT, Nat.reduceLeDiff, Nat.reduceMul, Nat.reduceBEq, reduceIte, gi5, i5, c9, hv10, c12, c15]
          · cases h
            simp -implicitDefEqProofs only [go_sem, Nat.reduceEqDiff, Nat.reduceAdd, Nat.reduceLT, Nat.reduceLeDiff, Nat.reduceMul, Nat.reduceBEq, reduceIte, gi5, i5, c9, hv10, c12, c15]
            rw [hR14]
            simp -implicitDefEqProofs only [go_sem, Nat.reduceEqDiff, Nat.reduceAdd, Nat.reduceLT, Nat.reduceLeDiff, Nat.reduceMul, Nat.reduceBEq, reduceIte, gi5, i5, c9, hv10, c12, c15]
        · replace h := h; clear hz
          rintro s i
          rw [hR14] at i
          obtain ⟨gi16, i16⟩ := i
          clear hR14
          try dsimp only at h
          cases h
          simp -implicitDefEqProofs only [go_sem, Nat.reduceEqDiff, Nat.reduceAdd, Nat.reduceLT, Nat.reduceLeDiff, Nat.reduceMul, Nat.reduceBEq, reduceIte, gi5, i5, c9, hv10, c12, gi16, i16]
          rw [hI5]
          simp -implicitDefEqProofs only [go_sem, Nat.reduceEqDiff, Nat.reduceAdd, Nat.reduceLT, Nat.reduceLeDiff, Nat.reduceMul, Nat.reduceBEq, reduceIte, gi5, i5, c9, hv10, c12, gi16, i16]
    · cases h
      simp -implicitDefEqProofs only [go_sem, Nat.reduceEqDiff, Nat.reduceAdd, Nat.reduceLT, Nat.reduceLeDiff, Nat.reduceMul, Nat.reduceBEq, reduceIte, gi5, i5, c9]
      rw [hR5]
      first | refine ⟨rfl, ?_⟩ | refine ⟨(), rfl, ?_⟩
      simp -implicitDefEqProofs only [go_sem, Nat.reduceEqDiff, Nat.reduceAdd, Nat.reduceLT, Nat.reduceLeDiff, Nat.reduceMul, Nat.reduceBEq, reduceIte, gi5, i5, c9]
  · clear hL5 hI5
    intro e s hr5
    rw [hR5] at hr5
    clear hR5
    rcases z5 with v8 | r
    · try dsimp only at h hr5
      obtain ⟨rfl, gi17, i17⟩ := hr5
      cases h
      subst hQ
      simp -implicitDefEqProofs only [go_sem, Nat.reduceEqDiff, Nat.reduceAdd, Nat.reduceLT, Nat.reduceLeDiff, Nat.reduceMul, Nat.reduceBEq, reduceIte, gi17, i17, Try.results14]
    · try dsimp only at h hr5
      obtain ⟨rfl, hr5⟩ := hr5
      cases h
      try simp -implicitDefEqProofs only [go_sem, Nat.reduceEqDiff, Nat.reduceAdd, Nat.reduceLT, Nat.reduceLeDiff, Nat.reduceMul, Nat.reduceBEq, reduceIte]
      exact hr5 rfl
theorem m_gauss_system_keep_ev (a0 : TGauss_system) (a1 : TTerm) (a2 : Int) (r0 : TTerm × TGauss_system) (h : m_gauss_system_keep a0 a1 a2 = some r0) (d : Nat) (G : Heap) (e0 t0 t0_0 : Nat) (he0 : e0 ≤ d) (hGt0 : G e0 t0 = [.box [arV ((a0.f0 : List TGauss_row).map cTGauss_row) (e0, t0_0, 0) 4, .p (.bool a0.f1)]]) (hGt0_0 : G e0 t0_0 = arO ((a0.f0 : List TGauss_row).map cTGauss_row)) (hnt0t0_0 : (t0 = t0_0) = False) (hnt0_0t0 : (t0_0 = t0) = False) : Tel Try.prog TB d 55 [.bp (e0, t0, 0) 0, .agg ((cTTerm a1).map .p), .p (.int .i64 a2)] G (.agg ((cTTerm r0.1).map .p)) (fillKey (fillKey (G) e0 t0 ([.box [arV ((r0.2.f0 : List TGauss_row).map cTGauss_row) (e0, t0_0, 0) 4, .p (.bool r0.2.f1)]])) e0 t0_0 (arO ((r0.2.f0 : List TGauss_row).map cTGauss_row))) := by
  unfold m_gauss_system_keep at h
  refine Tel.intro mix Try.func55 rfl (Nat.le_of_ble_eq_true rfl) {frzAt := fun t => t == 4} (by kernel_rfl) (by kernel_rfl) ?_
  have le0 : (e0 ≤ d + 1) = True := by simp; omega
  have qe0 : (e0 = d + 1) = False := by simp; omega
  have pe0 : (d + 1 = e0) = False := by simp; omega
  have wt0t0_0 := fk_swap (a := e0) (b := t0_0) (a' := e0) (b' := t0) (fun x => by rw [← hnt0_0t0]; exact x.2)
  refine gwp_heap (H' := fillKey (fillKey (cut d G) e0 t0 [.box [arV ((a0.f0 : List TGauss_row).map cTGauss_row) (e0, t0_0, 0) 4, .p (.bool a0.f1)]]) e0 t0_0 (arO ((a0.f0 : List TGauss_row).map cTGauss_row))) ?_ ?_
  · rw [fill_self (B := cut d G) (a := e0) (b := t0) (by rw [cut_app, if_pos he0]; exact hGt0), fill_self (B := cut d G) (a := e0) (b := t0_0) (by rw [cut_app, if_pos he0]; exact hGt0_0)]
  generalize hQ : callPost _ _ _ _ _ = Q
  rcases ib h with ⟨c1, h⟩ | ⟨c1, h⟩
  · cases h
    subst hQ
    simp -implicitDefEqProofs only [go_sem, Nat.reduceEqDiff, Nat.reduceAdd, Nat.reduceLT, Nat.reduceLeDiff, Nat.reduceMul, Nat.reduceBEq, reduceIte, he0, le0, qe0, pe0, hnt0t0_0, hnt0_0t0, wt0t0_0, c1, Try.results55]
  · cases h
    subst hQ
    simp -implicitDefEqProofs only [go_sem, Nat.reduceEqDiff, Nat.reduceAdd, Nat.reduceLT, Nat.reduceLeDiff, Nat.reduceMul, Nat.reduceBEq, reduceIte, he0, le0, qe0, pe0, hnt0t0_0, hnt0_0t0, wt0t0_0, c1, Try.results55]
theorem m_gauss_system_times_ev (a0 : TGauss_system) (a1 : TTerm) (a2 : TRat) (r0 : TTerm × TGauss_system) (h : m_gauss_system_times a0 a1 a2 = some r0) (d : Nat) (G : Heap) (e0 t0 t0_0 : Nat) (he0 : e0 ≤ d) (hGt0 : G e0 t0 = [.box [arV ((a0.f0 : List TGauss_row).map cTGauss_row) (e0, t0_0, 0) 4, .p (.bool a0.f1)]]) (hGt0_0 : G e0 t0_0 = arO ((a0.f0 : List TGauss_row).map cTGauss_row)) (hnt0t0_0 : (t0 = t0_0) = False) (hnt0_0t0 : (t0_0 = t0) = False) : Tel Try.prog TB d 54 [.bp (e0, t0, 0) 0, .agg ((cTTerm a1).map .p), .agg ((cTRat a2).map .p)] G (.agg ((cTTerm r0.1).map .p)) (fillKey (fillKey (G) e0 t0 ([.box [arV ((r0.2.f0 : List TGauss_row).map cTGauss_row) (e0, t0_0, 0) 4, .p (.bool r0.2.f1)]])) e0 t0_0 (arO ((r0.2.f0 : List TGauss_row).map cTGauss_row))) := by
  unfold m_gauss_system_times at h
  refine Tel.intro mix Try.func54 rfl (Nat.le_of_ble_eq_true rfl) {openAt := fun t => t == 13, frzAt := fun t => t == 4 || t == 5 || t == 10} (by kernel_rfl) (by kernel_rfl) ?_
  have le0 : (e0 ≤ d + 1) = True := by simp; omega
  have qe0 : (e0 = d + 1) = False := by simp; omega
  have pe0 : (d + 1 = e0) = False := by simp; omega
  have wt0t0_0 := fk_swap (a := e0) (b := t0_0) (a' := e0) (b' := t0) (fun x => by rw [← hnt0_0t0]; exact x.2)
  refine gwp_heap (H' := fillKey (fillKey (cut d G) e0 t0 [.box [arV ((a0.f0 : List TGauss_row).map cTGauss_row) (e0, t0_0, 0) 4, .p (.bool a0.f1)]]) e0 t0_0 (arO ((a0.f0 : List TGauss_row).map cTGauss_row))) ?_ ?_
  · rw [fill_self (B := cut d G) (a := e0) (b := t0) (by rw [cut_app, if_pos he0]; exact hGt0), fill_self (B := cut d G) (a := e0) (b := t0_0) (by rw [cut_app, if_pos he0]; exact hGt0_0)]
  generalize hQ : callPost _ _ _ _ _ = Q
  obtain ⟨r1, hr1, h⟩ := bs h
  simp -implicitDefEqProofs only [go_sem, Nat.reduceEqDiff, Nat.reduceAdd, Nat.reduceLT, Nat.reduceLeDiff, Nat.reduceMul, Nat.reduceBEq, reduceIte, he0, le0, qe0, pe0, hnt0t0_0, hnt0_0t0, wt0t0_0]
  refine call_frz (r' := .tup [.agg [.p (.sl (r1.1.f0.map cTRat)), .p (.int .i64 r1.1.f1.f0), .p (.int .i64 r1.1.f1.f1)], .p (.int .i64 r1.2)]) (m_term_Scale_ev a1 a2 r1 hr1 (d + 1) empty) (by simp -implicitDefEqProofs only [go_sem, Nat.reduceEqDiff, Nat.reduceAdd, Nat.reduceLT, Nat.reduceLeDiff, Nat.reduceMul, Nat.reduceBEq, reduceIte, he0, le0, qe0, pe0, hnt0t0_0, hnt0_0t0, wt0t0_0]) rfl (by simp -implicitDefEqProofs only [go_sem, Nat.reduceEqDiff, Nat.reduceAdd, Nat.reduceLT, Nat.reduceLeDiff, Nat.reduceMul, Nat.reduceBEq, reduceIte]) (by simp -implicitDefEqProofs only [go_sem, Nat.reduceEqDiff, Nat.reduceAdd, Nat.reduceLT, Nat.reduceLeDiff, Nat.reduceMul, Nat.reduceBEq, reduceIte]) ?_ rfl rfl
  obtain ⟨r2, hr2, h⟩ := bs h
  simp -implicitDefEqProofs only [go_sem, Nat.reduceEqDiff, Nat.reduceAdd, Nat.reduceLT, Nat.reduceLeDiff, Nat.reduceMul, Nat.reduceBEq, reduceIte, he0, le0, qe0, pe0, hnt0t0_0, hnt0_0t0, wt0t0_0]
  refine call_open0 (t0 := 999) (r := .agg [.p (.sl (r2.1.f0.map cTRat)), .p (.int .i64 r2.1.f1.f0), .p (.int .i64 r2.1.f1.f1)]) (m_gauss_system_keep_ev a0 r1.1 r1.2 r2 hr2 (d + 1) _ e0 t0 t0_0 (Nat.le_succ_of_le he0) (by simp -implicitDefEqProofs only [go_sem, Nat.reduceEqDiff, Nat.reduceAdd, Nat.reduceLT, Nat.reduceLeDiff, Nat.reduceMul, Nat.reduceBEq, reduceIte, he0, le0, qe0, pe0, hnt0t0_0, hnt0_0t0, wt0t0_0]) (by simp -implicitDefEqProofs only [go_sem, Nat.reduceEqDiff, Nat.reduceAdd, Nat.reduceLT, Nat.reduceLeDiff, Nat.reduceMul, Nat.reduceBEq, reduceIte, he0, le0, qe0, pe0, hnt0t0_0, hnt0_0t0, wt0t0_0]) hnt0t0_0 hnt0_0t0) (by simp -implicitDefEqProofs only [go_sem, Nat.reduceEqDiff, Nat.reduceAdd, Nat.reduceLT, Nat.reduceLeDiff, Nat.reduceMul, Nat.reduceBEq, reduceIte, he0, le0, qe0, pe0, hnt0t0_0, hnt0_0t0, wt0t0_0]) rfl (by simp -implicitDefEqProofs only [go_sem, Nat.reduceEqDiff, Nat.reduceAdd, Nat.reduceLT, Nat.reduceLeDiff, Nat.reduceMul, Nat.reduceBEq, reduceIte, he0, le0, qe0, pe0, hnt0t0_0, hnt0_0t0, wt0t0_0]) (by simp -implicitDefEqProofs only [go_sem, Nat.reduceEqDiff, Nat.reduceAdd, Nat.reduceLT, Nat.reduceLeDiff, Nat.reduceMul, Nat.reduceBEq, reduceIte, he0, le0, qe0, pe0, hnt0t0_0, hnt0_0t0, wt0t0_0]) (by simp -implicitDefEqProofs only [go_sem, Nat.reduceEqDiff, Nat.reduceAdd, Nat.reduceLT, Nat.reduceLeDiff, Nat.reduceMul, Nat.reduceBEq, reduceIte]) ?_
  have cl3 : (r2.2.f0).length = ((a0.f0 : List TGauss_row)).length := by have := len_keep hr2; (try simp only [List.length_set] at this); first | exact this | exact this.trans rfl
  have cv3 := arV_len (c := cTGauss_row) (κ := (e0, t0_0, 0)) (n := 4) cl3
  have ce3 := nil_len cl3
  cases h
  subst hQ
  simp -implicitDefEqProofs only [go_sem, Nat.reduceEqDiff, Nat.reduceAdd, Nat.reduceLT, Nat.reduceLeDiff, Nat.reduceMul, Nat.reduceBEq, reduceIte, he0, le0, qe0, pe0, hnt0t0_0, hnt0_0t0, wt0t0_0, cl3, cv3, ce3, Try.results54]
end Go.E
