import Derived.Test.YtnahfkmdojbpkaaMD
set_option linter.all false
set_option maxRecDepth 100000
namespace Go.E
open Go Go.Proofs Go.Eng
variable {TB : Nat → Option Obj}
theorem m_rat_Right_ev (a0 : TRat) (r0 : Bool) (h : m_rat_Right a0 = some r0) (d : Nat) (G : Heap) : Tel Try.prog TB d 34 [.agg ((cTRat a0).map .p)] G (.p (.bool r0)) G := by
  unfold m_rat_Right at h
  obtain ⟨_, c, h⟩ := bs h
  obtain ⟨h1, h2⟩ := rqs c
  cases h
  exact right_ev a0.f0 a0.f1 h1 h2 d G
theorem m_rat_Add_ev (a0 a1 : TRat) (r0 : TRat × Int) (h : m_rat_Add a0 a1 = some r0) (d : Nat) (G : Heap) : Tel Try.prog TB d 70 [.agg ((cTRat a0).map .p), .agg ((cTRat a1).map .p)] G (.tup [.agg ((cTRat r0.1).map .p), .p (.int .i64 r0.2)]) G := by
  unfold m_rat_Add at h
  obtain ⟨_, c, h⟩ := bs h
  obtain ⟨⟨h1, h2⟩, h3, h4⟩ := rqs c
  cases h
  exact add_ev a0.f0 a0.f1 a1.f0 a1.f1 h1 h2 h3 h4 d G
theorem m_rat_Mul_ev (a0 a1 : TRat) (r0 : TRat × Int) (h : m_rat_Mul a0 a1 = some r0) (d : Nat) (G : Heap) : Tel Try.prog TB d 66 [.agg ((cTRat a0).map .p), .agg ((cTRat a1).map .p)] G (.tup [.agg ((cTRat r0.1).map .p), .p (.int .i64 r0.2)]) G := by
  unfold m_rat_Mul at h
  obtain ⟨_, c, h⟩ := bs h
  obtain ⟨⟨h1, h2⟩, h3, h4⟩ := rqs c
  cases h
  exact mul_ev a0.f0 a0.f1 a1.f0 a1.f1 h1 h2 h3 h4 d G
theorem m_rat_Div_ev (a0 : TRat) (a1 : TRat) (r0 : TRat × Int) (h : m_rat_Div a0 a1 = some r0) (d : Nat) (G : Heap) : Tel Try.prog TB d 53 [.agg ((cTRat a0).map .p), .agg ((cTRat a1).map .p)] G (.tup [.agg ((cTRat r0.1).map .p), .p (.int .i64 r0.2)]) (G) := by
  unfold m_rat_Div at h
  refine Tel.intro mix Try.func53 rfl (Nat.le_of_ble_eq_true rfl) {frzAt := fun t => t == 2 || t == 3 || t == 7 || t == 11 || t == 31 || t == 40} (by kernel_rfl) (by kernel_rfl) ?_
  generalize hQ : callPost _ _ _ _ _ = Q
  obtain ⟨r1, hr1, h⟩ := bs h
  simp -implicitDefEqProofs only [go_sem, Nat.reduceEqDiff, Nat.reduceAdd, Nat.reduceLT, Nat.reduceLeDiff, Nat.reduceMul, Nat.reduceBEq, reduceIte]
  refine call_frz (r' := .p (.bool r1)) (m_rat_Right_ev a0 r1 hr1 (d + 1) empty) (by simp -implicitDefEqProofs only [go_sem, Nat.reduceEqDiff, Nat.reduceAdd, Nat.reduceLT, Nat.reduceLeDiff, Nat.reduceMul, Nat.reduceBEq, reduceIte]) rfl (by simp -implicitDefEqProofs only [go_sem, Nat.reduceEqDiff, Nat.reduceAdd, Nat.reduceLT, Nat.reduceLeDiff, Nat.reduceMul, Nat.reduceBEq, reduceIte]) (by simp -implicitDefEqProofs only [go_sem, Nat.reduceEqDiff, Nat.reduceAdd, Nat.reduceLT, Nat.reduceLeDiff, Nat.reduceMul, Nat.reduceBEq, reduceIte]) ?_ rfl rfl
  simp -implicitDefEqProofs only [go_sem, Nat.reduceEqDiff, Nat.reduceAdd, Nat.reduceLT, Nat.reduceLeDiff, Nat.reduceMul, Nat.reduceBEq, reduceIte]
  obtain ⟨v2, hz, h⟩ := bs h
  obtain ⟨R3, hR3⟩ : ∃ R : St → Prop, R = fun s => s.G = fillKey (cut d G) (d + 1) 4 [.box [.p (.int .i64 0), .p (.int .i64 0)]] ∧ s.F 2 = .ep (cTRat a0) 0 ∧ s.F 3 = .ep (cTRat a1) 0 ∧ s.F 4 = .bp (d + 1, 4, 0) 0 ∧ s.F 18 = .p (.bool v2) ∧ True := ⟨_, rfl⟩
  refine cutR R3 ?_ ?_
  · replace h := hz
    rcases ib h with ⟨c4, h⟩ | ⟨c4, h⟩
    · cases h
      simp -implicitDefEqProofs only [go_sem, Nat.reduceEqDiff, Nat.reduceAdd, Nat.reduceLT, Nat.reduceLeDiff, Nat.reduceMul, Nat.reduceBEq, reduceIte, c4]
      rw [hR3]
      simp -implicitDefEqProofs only [go_sem, Nat.reduceEqDiff, Nat.reduceAdd, Nat.reduceLT, Nat.reduceLeDiff, Nat.reduceMul, Nat.reduceBEq, reduceIte, c4]
    · obtain ⟨r5, hr5, h⟩ := bs h
      simp -implicitDefEqProofs only [go_sem, Nat.reduceEqDiff, Nat.reduceAdd, Nat.reduceLT, Nat.reduceLeDiff, Nat.reduceMul, Nat.reduceBEq, reduceIte, c4]
      refine call_frz (r' := .p (.bool r5)) (m_rat_Right_ev a1 r5 hr5 (d + 1) empty) (by simp -implicitDefEqProofs only [go_sem, Nat.reduceEqDiff, Nat.reduceAdd, Nat.reduceLT, Nat.reduceLeDiff, Nat.reduceMul, Nat.reduceBEq, reduceIte, c4]) rfl (by simp -implicitDefEqProofs only [go_sem, Nat.reduceEqDiff, Nat.reduceAdd, Nat.reduceLT, Nat.reduceLeDiff, Nat.reduceMul, Nat.reduceBEq, reduceIte]) (by simp -implicitDefEqProofs only [go_sem, Nat.reduceEqDiff, Nat.reduceAdd, Nat.reduceLT, Nat.reduceLeDiff, Nat.reduceMul, Nat.reduceBEq, reduceIte]) ?_ rfl rfl
      rcases ib h with ⟨c6, h⟩ | ⟨c6, h⟩
      · cases h
        simp -implicitDefEqProofs only [go_sem, Nat.reduceEqDiff, Nat.reduceAdd, Nat.reduceLT, Nat.reduceLeDiff, Nat.reduceMul, Nat.reduceBEq, reduceIte, c4, c6]
        rw [hR3]
        simp -implicitDefEqProofs only [go_sem, Nat.reduceEqDiff, Nat.reduceAdd, Nat.reduceLT, Nat.reduceLeDiff, Nat.reduceMul, Nat.reduceBEq, reduceIte, c4, c6]
      · cases h
        simp -implicitDefEqProofs only [go_sem, Nat.reduceEqDiff, Nat.reduceAdd, Nat.reduceLT, Nat.reduceLeDiff, Nat.reduceMul, Nat.reduceBEq, reduceIte, c4, c6]
        rw [hR3]
        simp -implicitDefEqProofs only [go_sem, Nat.reduceEqDiff, Nat.reduceAdd, Nat.reduceLT, Nat.reduceLeDiff, Nat.reduceMul, Nat.reduceBEq, reduceIte, c4, c6]
  · replace h := h; clear hz
    rintro s i
    rw [hR3] at i
    obtain ⟨gi7, i7⟩ := i
    clear hR3
    try dsimp only at h
    rcases ib h with ⟨c8, h⟩ | ⟨c8, h⟩
    · cases h
      subst hQ
      simp -implicitDefEqProofs only [go_sem, Nat.reduceEqDiff, Nat.reduceAdd, Nat.reduceLT, Nat.reduceLeDiff, Nat.reduceMul, Nat.reduceBEq, reduceIte, gi7, i7, c8, Try.results53]
    · rcases ib h with ⟨c9, h⟩ | ⟨c9, h⟩
      · obtain ⟨r10, hr10, h⟩ := bs h
        simp -implicitDefEqProofs only [go_sem, Nat.reduceEqDiff, Nat.reduceAdd, Nat.reduceLT, Nat.reduceLeDiff, Nat.reduceMul, Nat.reduceBEq, reduceIte, gi7, i7, c8, c9]
        refine call_frz (r' := .tup [.agg [.p (.int .i64 r10.1.f0), .p (.int .i64 r10.1.f1)], .p (.int .i64 r10.2)]) (m_rat_Mul_ev a0 (⟨IntKind.wrap .i64 (0 - a1.f1), IntKind.wrap .i64 (0 - a1.f0)⟩ : TRat) r10 hr10 (d + 1) empty) (by simp -implicitDefEqProofs only [go_sem, Nat.reduceEqDiff, Nat.reduceAdd, Nat.reduceLT, Nat.reduceLeDiff, Nat.reduceMul, Nat.reduceBEq, reduceIte, gi7, i7, c8, c9]) rfl (by simp -implicitDefEqProofs only [go_sem, Nat.reduceEqDiff, Nat.reduceAdd, Nat.reduceLT, Nat.reduceLeDiff, Nat.reduceMul, Nat.reduceBEq, reduceIte]) (by simp -implicitDefEqProofs only [go_sem, Nat.reduceEqDiff, Nat.reduceAdd, Nat.reduceLT, Nat.reduceLeDiff, Nat.reduceMul, Nat.reduceBEq, reduceIte]) ?_ rfl rfl
        cases h
        subst hQ
        simp -implicitDefEqProofs only [go_sem, Nat.reduceEqDiff, Nat.reduceAdd, Nat.reduceLT, Nat.reduceLeDiff, Nat.reduceMul, Nat.reduceBEq, reduceIte, gi7, i7, c8, c9, Try.results53]
      · obtain ⟨r11, hr11, h⟩ := bs h
        simp -implicitDefEqProofs only [go_sem, Nat.reduceEqDiff, Nat.reduceAdd, Nat.reduceLT, Nat.reduceLeDiff, Nat.reduceMul, Nat.reduceBEq, reduceIte, gi7, i7, c8, c9]
        refine call_frz (r' := .tup [.agg [.p (.int .i64 r11.1.f0), .p (.int .i64 r11.1.f1)], .p (.int .i64 r11.2)]) (m_rat_Mul_ev a0 (⟨a1.f1, a1.f0⟩ : TRat) r11 hr11 (d + 1) empty) (by simp -implicitDefEqProofs only [go_sem, Nat.reduceEqDiff, Nat.reduceAdd, Nat.reduceLT, Nat.reduceLeDiff, Nat.reduceMul, Nat.reduceBEq, reduceIte, gi7, i7, c8, c9]) rfl (by simp -implicitDefEqProofs only [go_sem, Nat.reduceEqDiff, Nat.reduceAdd, Nat.reduceLT, Nat.reduceLeDiff, Nat.reduceMul, Nat.reduceBEq, reduceIte]) (by simp -implicitDefEqProofs only [go_sem, Nat.reduceEqDiff, Nat.reduceAdd, Nat.reduceLT, Nat.reduceLeDiff, Nat.reduceMul, Nat.reduceBEq, reduceIte]) ?_ rfl rfl
        cases h
        subst hQ
        simp -implicitDefEqProofs only [go_sem, Nat.reduceEqDiff, Nat.reduceAdd, Nat.reduceLT, Nat.reduceLeDiff, Nat.reduceMul, Nat.reduceBEq, reduceIte, gi7, i7, c8, c9, Try.results53]
theorem m_ref01_Right_ev (a0 : TRat) (r0 : Bool) (h : m_ref01_Right a0 = some r0) (d : Nat) (G : Heap) : Tel Try.prog TB d 44 [.agg ((cTRat a0).map .p)] G (.p (.bool r0)) G := by
  unfold m_ref01_Right at h
  obtain ⟨_, c, h⟩ := bs h
  obtain ⟨h1, h2⟩ := rqs c
  cases h
  exact Ref.rright_ev a0.f0 a0.f1 h1 h2 d G
theorem m_ref01_Do_ev (a0 : Int) (a1 a2 : TRat) (r0 : TRat × Int) (h : m_ref01_Do a0 a1 a2 = some r0) (d : Nat) (G : Heap) : Tel Try.prog TB d 45 [.p (.int .i64 a0), .agg ((cTRat a1).map .p), .agg ((cTRat a2).map .p)] G (.tup [.agg ((cTRat r0.1).map .p), .p (.int .i64 r0.2)]) G := by
  unfold m_ref01_Do at h
  obtain ⟨_, c, h⟩ := bs h
  obtain ⟨⟨h1, h2⟩, h3, h4⟩ := rqs c
  by_cases e0 : a0 = 0
  · rw [if_pos e0] at h
    cases h
    subst e0
    exact Ref.do0_ev a1.f0 a1.f1 a2.f0 a2.f1 h1 h2 h3 h4 d G
  rw [if_neg e0] at h
  by_cases e2 : a0 = 2
  · rw [if_pos e2] at h
    cases h
    subst e2
    exact Ref.do2_ev a1.f0 a1.f1 a2.f0 a2.f1 h1 h2 h3 h4 d G
  rw [if_neg e2] at h
  by_cases e3 : a0 = 3
  · rw [if_pos e3] at h
    cases h
    subst e3
    exact Ref.do3_ev a1.f0 a1.f1 a2.f0 a2.f1 h1 h2 h3 h4 d G
  rw [if_neg e3] at h
  cases h
theorem m_slices_IndexFunc_api_Rat_ev (a0 : List TRat) (a1 : (TRat → Option Bool)) (n1 : FuncId) (q1 : List GV) (hc1 : closeds q1) (hf1 : ∀ x0 r, a1 x0 = some r → ∀ d, Tel Try.prog TB d n1 ([.agg ((cTRat x0).map .p)] ++ q1) empty (.p (.bool r)) empty) (r0 : Int) (h : m_slices_IndexFunc_api_Rat a0 a1 = some r0) (d : Nat) (G : Heap) : Tel Try.prog TB d 51 [.p (.sl (a0.map cTRat)), .fn n1 q1] G (.p (.int .i64 r0)) (G) := by
  unfold m_slices_IndexFunc_api_Rat at h
  refine Tel.intro mix Try.func51 rfl (Nat.le_of_ble_eq_true rfl) {frzAt := fun t => t == 16} (by kernel_rfl) (by kernel_rfl) ?_
  generalize hQ : callPost _ _ _ _ _ = Q
  simp -implicitDefEqProofs only [go_sem, Nat.reduceEqDiff, Nat.reduceAdd, Nat.reduceLT, Nat.reduceLeDiff, Nat.reduceMul, Nat.reduceBEq, reduceIte]
  obtain ⟨z3, hL3, h⟩ := bs h
  obtain ⟨I3, hI3⟩ : ∃ I : Int → St → Prop, I = fun v4 s => s.G = cut d G ∧ s.F 0 = .p (.sl (a0.map cTRat)) ∧ s.F 1 = .fn n1 q1 ∧ s.F 7 = .p (.int .i64 (a0.length : Int)) ∧ s.F 8 = .p (.int .i64 v4) ∧ True := ⟨_, rfl⟩
  obtain ⟨R3, hR3⟩ : ∃ R : ((Unit) ⊕ (Int)) → GE → St → Prop, R = fun x e s => match x with | .inl _ => e = .exit 0 ∧ s.G = cut d G ∧ True | .inr r => e = .ret ∧ (r = r0 → Q .ret s) := ⟨_, rfl⟩
  refine lp (ts := []) rfl hL3 I3 R3 ?_ ?_ ?_
  · rw [hI3]
    simp -implicitDefEqProofs only [go_sem, Nat.reduceEqDiff, Nat.reduceAdd, Nat.reduceLT, Nat.reduceLeDiff, Nat.reduceMul, Nat.reduceBEq, reduceIte]
  · clear h hL3
    rintro v4 y s h i
    rw [hI3] at i
    obtain ⟨gi3, i3⟩ := i
    replace h : m_slices_IndexFunc_api_Rat_L0 a0 a1 (v4) = some y := h
    unfold m_slices_IndexFunc_api_Rat_L0 at h
    rcases ib h with ⟨c5, h⟩ | ⟨c5, h⟩
    · obtain ⟨v6, hv6, h⟩ := bs h
      replace hv6 := gis hv6
      obtain ⟨r7, hr7, h⟩ := bs h
      simp -implicitDefEqProofs only [go_sem, Nat.reduceEqDiff, Nat.reduceAdd, Nat.reduceLT, Nat.reduceLeDiff, Nat.reduceMul, Nat.reduceBEq, reduceIte, gi3, i3, c5, hv6]
      refine call_frz (r' := .p (.bool r7)) (hf1 v6 r7 hr7 (d + 1)) (by simp -implicitDefEqProofs only [go_sem, Nat.reduceEqDiff, Nat.reduceAdd, Nat.reduceLT, Nat.reduceLeDiff, Nat.reduceMul, Nat.reduceBEq, reduceIte, gi3, i3, c5, hv6]) rfl (by simp -implicitDefEqProofs only [go_sem, Nat.reduceEqDiff, Nat.reduceAdd, Nat.reduceLT, Nat.reduceLeDiff, Nat.reduceMul, Nat.reduceBEq, reduceIte, hc1]) (by simp -implicitDefEqProofs only [go_sem, Nat.reduceEqDiff, Nat.reduceAdd, Nat.reduceLT, Nat.reduceLeDiff, Nat.reduceMul, Nat.reduceBEq, reduceIte]) ?_ rfl rfl
      rcases ib h with ⟨c8, h⟩ | ⟨c8, h⟩
      · cases h
        simp -implicitDefEqProofs only [go_sem, Nat.reduceEqDiff, Nat.reduceAdd, Nat.reduceLT, Nat.reduceLeDiff, Nat.reduceMul, Nat.reduceBEq, reduceIte, gi3, i3, c5, hv6, c8]
        rw [hR3]
        refine ⟨rfl, ?_⟩
        intro hr
        subst hr
        subst hQ
        simp -implicitDefEqProofs only [go_sem, Nat.reduceEqDiff, Nat.reduceAdd, Nat.reduceLT, Nat.reduceLeDiff, Nat.reduceMul, Nat.reduceBEq, reduceIte, gi3, i3, c5, hv6, c8, Try.results51]
      · cases h
        simp -implicitDefEqProofs only [go_sem, Nat.reduceEqDiff, Nat.reduceAdd, Nat.reduceLT, Nat.reduceLeDiff, Nat.reduceMul, Nat.reduceBEq, reduceIte, gi3, i3, c5, hv6, c8]
        rw [hI3]
        simp -implicitDefEqProofs only [go_sem, Nat.reduceEqDiff, Nat.reduceAdd, Nat.reduceLT, Nat.reduceLeDiff, Nat.reduceMul, Nat.reduceBEq, reduceIte, gi3, i3, c5, hv6, c8]
    · cases h
      simp -implicitDefEqProofs only [go_sem, Nat.reduceEqDiff, Nat.reduceAdd, Nat.reduceLT, Nat.reduceLeDiff, Nat.reduceMul, Nat.reduceBEq, reduceIte, gi3, i3, c5]
      rw [hR3]
      first | refine ⟨rfl, ?_⟩ | refine ⟨(), rfl, ?_⟩
      simp -implicitDefEqProofs only [go_sem, Nat.reduceEqDiff, Nat.reduceAdd, Nat.reduceLT, Nat.reduceLeDiff, Nat.reduceMul, Nat.reduceBEq, reduceIte, gi3, i3, c5]
  · clear hL3 hI3
    intro e s hr3
    rw [hR3] at hr3
    clear hR3
    rcases z3 with _ | r
    · try dsimp only at h hr3
      obtain ⟨rfl, gi9, i9⟩ := hr3
      cases h
      subst hQ
      simp -implicitDefEqProofs only [go_sem, Nat.reduceEqDiff, Nat.reduceAdd, Nat.reduceLT, Nat.reduceLeDiff, Nat.reduceMul, Nat.reduceBEq, reduceIte, gi9, i9, Try.results51]
    · try dsimp only at h hr3
      obtain ⟨rfl, hr3⟩ := hr3
      cases h
      try simp -implicitDefEqProofs only [go_sem, Nat.reduceEqDiff, Nat.reduceAdd, Nat.reduceLT, Nat.reduceLeDiff, Nat.reduceMul, Nat.reduceBEq, reduceIte]
      exact hr3 rfl
theorem m_slices_ContainsFunc_api_Rat_ev (a0 : List TRat) (a1 : (TRat → Option Bool)) (n1 : FuncId) (q1 : List GV) (hc1 : closeds q1) (hf1 : ∀ x0 r, a1 x0 = some r → ∀ d, Tel Try.prog TB d n1 ([.agg ((cTRat x0).map .p)] ++ q1) empty (.p (.bool r)) empty) (r0 : Bool) (h : m_slices_ContainsFunc_api_Rat a0 a1 = some r0) (d : Nat) (G : Heap) : Tel Try.prog TB d 35 [.p (.sl (a0.map cTRat)), .fn n1 q1] G (.p (.bool r0)) (G) := by
  unfold m_slices_ContainsFunc_api_Rat at h
  refine Tel.intro mix Try.func35 rfl (Nat.le_of_ble_eq_true rfl) {frzAt := fun t => t == 7} (by kernel_rfl) (by kernel_rfl) ?_
  generalize hQ : callPost _ _ _ _ _ = Q
  obtain ⟨r1, hr1, h⟩ := bs h
  simp -implicitDefEqProofs only [go_sem, Nat.reduceEqDiff, Nat.reduceAdd, Nat.reduceLT, Nat.reduceLeDiff, Nat.reduceMul, Nat.reduceBEq, reduceIte]
  refine call_frz (r' := .p (.int .i64 r1)) (m_slices_IndexFunc_api_Rat_ev a0 a1 n1 q1 hc1 hf1 r1 hr1 (d + 1) empty) (by simp -implicitDefEqProofs only [go_sem, Nat.reduceEqDiff, Nat.reduceAdd, Nat.reduceLT, Nat.reduceLeDiff, Nat.reduceMul, Nat.reduceBEq, reduceIte]) rfl (by simp -implicitDefEqProofs only [go_sem, Nat.reduceEqDiff, Nat.reduceAdd, Nat.reduceLT, Nat.reduceLeDiff, Nat.reduceMul, Nat.reduceBEq, reduceIte, hc1]) (by simp -implicitDefEqProofs only [go_sem, Nat.reduceEqDiff, Nat.reduceAdd, Nat.reduceLT, Nat.reduceLeDiff, Nat.reduceMul, Nat.reduceBEq, reduceIte]) ?_ rfl rfl
  cases h
  subst hQ
  simp -implicitDefEqProofs only [go_sem, Nat.reduceEqDiff, Nat.reduceAdd, Nat.reduceLT, Nat.reduceLeDiff, Nat.reduceMul, Nat.reduceBEq, reduceIte, Try.results35]
theorem m_slices_Clone_api_Rat_ev (a0 : List TRat) (r0 : List TRat) (h : m_slices_Clone_api_Rat a0 = some r0) (d : Nat) (G : Heap) : Tel Try.prog TB d 52 [.p (.sl (a0.map cTRat))] G (.p (.sl (r0.map cTRat))) G := by
  unfold m_slices_Clone_api_Rat at h
  obtain ⟨_, c1, h⟩ := bs h
  replace c1 := rqs c1
  cases h
  refine Tel.intro_nil mix Try.func52 rfl (by decide) {pureAt := fun t => t == 7} m_slices_Clone_api_Rat_A m_slices_Clone_api_Rat_B (x := 2) (y := 3) (z := 4) (by decide) (by decide) (by decide) (by kernel_rfl) (by kernel_rfl) (by kernel_rfl) ?_ ?_
  · intro a n m Q w a0 h0 hs h
    have s3 : 3 < a0.tmps.size := by rw [hs]; decide
    refine wp_seq (wp_region ?_)
    show wpOps _ _ _ [0] _ _
    simp only [wpOps, Region.wanted, if_true, List.getElem?_toArray, List.getElem?_cons_zero]
    refine .inl (wp_val (rv := .slice none 0 0) (w' := w) (by simp [execOp, Act.eval]) ?_)
    show Code.wp _ _ _ _ _
    refine wp_seq (wp_seq (wp_region ?_))
    show wpOps _ _ _ [0, 1] _ _
    simp only [wpOps, Region.wanted, if_true, List.getElem?_toArray, List.getElem?_cons_zero, List.getElem?_cons_succ]
    refine .inl (wp_val (rv := .slice a n m) (w' := w) ?_ ?_)
    · have e : (a0.put (some 2) (.slice none 0 0)).tmps.getD 0 undef = .slice a n m := by simpa [Act.put, Array.getD_eq_getD_getElem?] using h0
      show Sem.run _ (pure (Next.value ((a0.put (some 2) (.slice none 0 0)).tmps.getD 0 undef))) w = _
      rw [e]; rfl
    · refine .inl (wp_val (rv := .bool a.isNone) (w' := w) ?_ ?_)
      · have e : ((a0.put (some 2) (.slice none 0 0)).put (some 3) (.slice a n m)).tmps.getD 3 undef = .slice a n m := by simp [Act.put, Array.getD_eq_getD_getElem?, s3]
        have isn := run_equal_slice_nil (P := Try.prog) w 30 36 a n m Try.underlying30
        have e' : ((a0.put (some 2) (.slice none 0 0)).put (some 3) (.slice a n m)).eval (.tmp 3) = .slice a n m := e
        simp only [execOp, e']
        simp [Act.eval, binOp, isn, eqGuard]
      · exact h
  · intro b hb
    show gwp _ _ _ _ m_slices_Clone_api_Rat_A _ _
    simp only [m_slices_Clone_api_Rat_A, m_slices_Clone_api_Rat_B, Try.f52]
    cases b
    · simp -implicitDefEqProofs only [go_sem, Nat.reduceEqDiff, Nat.reduceAdd, Nat.reduceLT, Nat.reduceLeDiff, Nat.reduceMul, Nat.reduceBEq, reduceIte]
      refine append_pure (n := 2) (es := []) (xs := a0.map cTRat) el30 (by simp -implicitDefEqProofs only [go_sem, Nat.reduceEqDiff, Nat.reduceAdd, Nat.reduceLT, Nat.reduceLeDiff, Nat.reduceMul, Nat.reduceBEq, reduceIte]) rfl sizes_nil (by simp -implicitDefEqProofs only [go_sem, Nat.reduceEqDiff, Nat.reduceAdd, Nat.reduceLT, Nat.reduceLeDiff, Nat.reduceMul, Nat.reduceBEq, reduceIte]) (by simp; omega) ?_
      simp -implicitDefEqProofs only [go_sem, Nat.reduceEqDiff, Nat.reduceAdd, Nat.reduceLT, Nat.reduceLeDiff, Nat.reduceMul, Nat.reduceBEq, reduceIte, Try.results52]
    · obtain rfl : a0 = [] := by simpa using hb rfl
      simp -implicitDefEqProofs only [go_sem, Nat.reduceEqDiff, Nat.reduceAdd, Nat.reduceLT, Nat.reduceLeDiff, Nat.reduceMul, Nat.reduceBEq, reduceIte, Try.results52]
theorem m_term_nought_ev  (r0 : TRat) (h : m_term_nought  = some r0) (d : Nat) (G : Heap) : Tel Try.prog TB d 37 [] G (.agg ((cTRat r0).map .p)) (G) := by
  unfold m_term_nought at h
  refine Tel.intro mix Try.func37 rfl (Nat.le_of_ble_eq_true rfl) {} (by kernel_rfl) (by kernel_rfl) ?_
  generalize hQ : callPost _ _ _ _ _ = Q
  cases h
  subst hQ
  simp -implicitDefEqProofs only [go_sem, Nat.reduceEqDiff, Nat.reduceAdd, Nat.reduceLT, Nat.reduceLeDiff, Nat.reduceMul, Nat.reduceBEq, reduceIte, Try.results37]
theorem m_term_At_ev (a0 : TTerm) (a1 : Int) (r0 : TRat) (h : m_term_At a0 a1 = some r0) (d : Nat) (G : Heap) : Tel Try.prog TB d 41 [.agg ((cTTerm a0).map .p), .p (.int .i64 a1)] G (.agg ((cTRat r0).map .p)) (G) := by
  unfold m_term_At at h
  refine Tel.intro mix Try.func41 rfl (Nat.le_of_ble_eq_true rfl) {frzAt := fun t => t == 2 || t == 14} (by kernel_rfl) (by kernel_rfl) ?_
  generalize hQ : callPost _ _ _ _ _ = Q
  rcases ib h with ⟨c1, h⟩ | ⟨c1, h⟩
  · obtain ⟨r2, hr2, h⟩ := bs h
    simp -implicitDefEqProofs only [go_sem, Nat.reduceEqDiff, Nat.reduceAdd, Nat.reduceLT, Nat.reduceLeDiff, Nat.reduceMul, Nat.reduceBEq, reduceIte, c1]
    refine call_frz (r' := .agg [.p (.int .i64 r2.f0), .p (.int .i64 r2.f1)]) (args := []) (caps := []) (m_term_nought_ev  r2 hr2 (d + 1) empty) (wkRs_refl []) rfl (by simp -implicitDefEqProofs only [go_sem, Nat.reduceEqDiff, Nat.reduceAdd, Nat.reduceLT, Nat.reduceLeDiff, Nat.reduceMul, Nat.reduceBEq, reduceIte]) (by simp -implicitDefEqProofs only [go_sem, Nat.reduceEqDiff, Nat.reduceAdd, Nat.reduceLT, Nat.reduceLeDiff, Nat.reduceMul, Nat.reduceBEq, reduceIte]) ?_ rfl rfl
    cases h
    subst hQ
    simp -implicitDefEqProofs only [go_sem, Nat.reduceEqDiff, Nat.reduceAdd, Nat.reduceLT, Nat.reduceLeDiff, Nat.reduceMul, Nat.reduceBEq, reduceIte, c1, Try.results41]
  · rcases ib h with ⟨c3, h⟩ | ⟨c3, h⟩
    · obtain ⟨r4, hr4, h⟩ := bs h
      simp -implicitDefEqProofs only [go_sem, Nat.reduceEqDiff, Nat.reduceAdd, Nat.reduceLT, Nat.reduceLeDiff, Nat.reduceMul, Nat.reduceBEq, reduceIte, c1, c3]
      refine call_frz (r' := .agg [.p (.int .i64 r4.f0), .p (.int .i64 r4.f1)]) (args := []) (caps := []) (m_term_nought_ev  r4 hr4 (d + 1) empty) (wkRs_refl []) rfl (by simp -implicitDefEqProofs only [go_sem, Nat.reduceEqDiff, Nat.reduceAdd, Nat.reduceLT, Nat.reduceLeDiff, Nat.reduceMul, Nat.reduceBEq, reduceIte]) (by simp -implicitDefEqProofs only [go_sem, Nat.reduceEqDiff, Nat.reduceAdd, Nat.reduceLT, Nat.reduceLeDiff, Nat.reduceMul, Nat.reduceBEq, reduceIte]) ?_ rfl rfl
      cases h
      subst hQ
      simp -implicitDefEqProofs only [go_sem, Nat.reduceEqDiff, Nat.reduceAdd, Nat.reduceLT, Nat.reduceLeDiff, Nat.reduceMul, Nat.reduceBEq, reduceIte, c1, c3, Try.results41]
    · obtain ⟨v5, hv5, h⟩ := bs h
      replace hv5 := gis hv5
      cases h
      subst hQ
      simp -implicitDefEqProofs only [go_sem, Nat.reduceEqDiff, Nat.reduceAdd, Nat.reduceLT, Nat.reduceLeDiff, Nat.reduceMul, Nat.reduceBEq, reduceIte, c1, c3, hv5, Try.results41]
theorem m_term_one_ev (a0 : TTerm) (a1 : Int) (r0 : TRat) (h : m_term_one a0 a1 = some r0) (d : Nat) (G : Heap) : Tel Try.prog TB d 71 [.agg ((cTTerm a0).map .p), .p (.int .i64 a1)] G (.agg ((cTRat r0).map .p)) (G) := by
  unfold m_term_one at h
  refine Tel.intro mix Try.func71 rfl (Nat.le_of_ble_eq_true rfl) {frzAt := fun t => t == 2 || t == 11} (by kernel_rfl) (by kernel_rfl) ?_
  generalize hQ : callPost _ _ _ _ _ = Q
  rcases ib h with ⟨c1, h⟩ | ⟨c1, h⟩
  · cases h
    subst hQ
    simp -implicitDefEqProofs only [go_sem, Nat.reduceEqDiff, Nat.reduceAdd, Nat.reduceLT, Nat.reduceLeDiff, Nat.reduceMul, Nat.reduceBEq, reduceIte, c1, Try.results71]
  · obtain ⟨r2, hr2, h⟩ := bs h
    simp -implicitDefEqProofs only [go_sem, Nat.reduceEqDiff, Nat.reduceAdd, Nat.reduceLT, Nat.reduceLeDiff, Nat.reduceMul, Nat.reduceBEq, reduceIte, c1]
    refine call_frz (r' := .agg [.p (.int .i64 r2.f0), .p (.int .i64 r2.f1)]) (m_term_At_ev a0 a1 r2 hr2 (d + 1) empty) (by simp -implicitDefEqProofs only [go_sem, Nat.reduceEqDiff, Nat.reduceAdd, Nat.reduceLT, Nat.reduceLeDiff, Nat.reduceMul, Nat.reduceBEq, reduceIte, c1]) rfl (by simp -implicitDefEqProofs only [go_sem, Nat.reduceEqDiff, Nat.reduceAdd, Nat.reduceLT, Nat.reduceLeDiff, Nat.reduceMul, Nat.reduceBEq, reduceIte]) (by simp -implicitDefEqProofs only [go_sem, Nat.reduceEqDiff, Nat.reduceAdd, Nat.reduceLT, Nat.reduceLeDiff, Nat.reduceMul, Nat.reduceBEq, reduceIte]) ?_ rfl rfl
    cases h
    subst hQ
    simp -implicitDefEqProofs only [go_sem, Nat.reduceEqDiff, Nat.reduceAdd, Nat.reduceLT, Nat.reduceLeDiff, Nat.reduceMul, Nat.reduceBEq, reduceIte, c1, Try.results71]
theorem m_term_Right_1_ev (a0 : TRat) (r0 : Bool) (h : m_term_Right_1 a0 = some r0) (d : Nat) (G : Heap) : Tel Try.prog TB d 36 [.agg ((cTRat a0).map .p)] G (.p (.bool r0)) (G) := by
  unfold m_term_Right_1 at h
  refine Tel.intro mix Try.func36 rfl (Nat.le_of_ble_eq_true rfl) {frzAt := fun t => t == 1 || t == 4} (by kernel_rfl) (by kernel_rfl) ?_
  generalize hQ : callPost _ _ _ _ _ = Q
  obtain ⟨r1, hr1, h⟩ := bs h
  simp -implicitDefEqProofs only [go_sem, Nat.reduceEqDiff, Nat.reduceAdd, Nat.reduceLT, Nat.reduceLeDiff, Nat.reduceMul, Nat.reduceBEq, reduceIte]
  refine call_frz (r' := .p (.bool r1)) (m_rat_Right_ev a0 r1 hr1 (d + 1) empty) (by simp -implicitDefEqProofs only [go_sem, Nat.reduceEqDiff, Nat.reduceAdd, Nat.reduceLT, Nat.reduceLeDiff, Nat.reduceMul, Nat.reduceBEq, reduceIte]) rfl (by simp -implicitDefEqProofs only [go_sem, Nat.reduceEqDiff, Nat.reduceAdd, Nat.reduceLT, Nat.reduceLeDiff, Nat.reduceMul, Nat.reduceBEq, reduceIte]) (by simp -implicitDefEqProofs only [go_sem, Nat.reduceEqDiff, Nat.reduceAdd, Nat.reduceLT, Nat.reduceLeDiff, Nat.reduceMul, Nat.reduceBEq, reduceIte]) ?_ rfl rfl
  cases h
  subst hQ
  simp -implicitDefEqProofs only [go_sem, Nat.reduceEqDiff, Nat.reduceAdd, Nat.reduceLT, Nat.reduceLeDiff, Nat.reduceMul, Nat.reduceBEq, reduceIte, Try.results36]
theorem m_term_Right_ev (a0 : TTerm) (r0 : Bool) (h : m_term_Right a0 = some r0) (d : Nat) (G : Heap) : Tel Try.prog TB d 20 [.agg ((cTTerm a0).map .p)] G (.p (.bool r0)) (G) := by
  unfold m_term_Right at h
  refine Tel.intro mix Try.func20 rfl (Nat.le_of_ble_eq_true rfl) {frzAt := fun t => t == 1 || t == 10 || t == 15} (by kernel_rfl) (by kernel_rfl) ?_
  generalize hQ : callPost _ _ _ _ _ = Q
  rcases ib h with ⟨c1, h⟩ | ⟨c1, h⟩
  · obtain ⟨r2, hr2, h⟩ := bs h
    simp -implicitDefEqProofs only [go_sem, Nat.reduceEqDiff, Nat.reduceAdd, Nat.reduceLT, Nat.reduceLeDiff, Nat.reduceMul, Nat.reduceBEq, reduceIte, c1]
    refine call_frz (r' := .p (.bool r2)) (m_rat_Right_ev a0.f1 r2 hr2 (d + 1) empty) (by simp -implicitDefEqProofs only [go_sem, Nat.reduceEqDiff, Nat.reduceAdd, Nat.reduceLT, Nat.reduceLeDiff, Nat.reduceMul, Nat.reduceBEq, reduceIte, c1]) rfl (by simp -implicitDefEqProofs only [go_sem, Nat.reduceEqDiff, Nat.reduceAdd, Nat.reduceLT, Nat.reduceLeDiff, Nat.reduceMul, Nat.reduceBEq, reduceIte]) (by simp -implicitDefEqProofs only [go_sem, Nat.reduceEqDiff, Nat.reduceAdd, Nat.reduceLT, Nat.reduceLeDiff, Nat.reduceMul, Nat.reduceBEq, reduceIte]) ?_ rfl rfl
    rcases ib h with ⟨c3, h⟩ | ⟨c3, h⟩
    · obtain ⟨r4, hr4, h⟩ := bs h
      simp -implicitDefEqProofs only [go_sem, Nat.reduceEqDiff, Nat.reduceAdd, Nat.reduceLT, Nat.reduceLeDiff, Nat.reduceMul, Nat.reduceBEq, reduceIte, c1, c3]
      refine call_frz (r' := .p (.bool r4)) (m_slices_ContainsFunc_api_Rat_ev a0.f0 (fun x0 => m_term_Right_1 x0) 36 [] (by simp -implicitDefEqProofs only [go_sem, Nat.reduceEqDiff, Nat.reduceAdd, Nat.reduceLT, Nat.reduceLeDiff, Nat.reduceMul, Nat.reduceBEq, reduceIte]) (fun x0 r h d => m_term_Right_1_ev x0 r h d empty) r4 hr4 (d + 1) empty) (by simp -implicitDefEqProofs only [go_sem, Nat.reduceEqDiff, Nat.reduceAdd, Nat.reduceLT, Nat.reduceLeDiff, Nat.reduceMul, Nat.reduceBEq, reduceIte, c1, c3]) rfl (by simp -implicitDefEqProofs only [go_sem, Nat.reduceEqDiff, Nat.reduceAdd, Nat.reduceLT, Nat.reduceLeDiff, Nat.reduceMul, Nat.reduceBEq, reduceIte]) (by simp -implicitDefEqProofs only [go_sem, Nat.reduceEqDiff, Nat.reduceAdd, Nat.reduceLT, Nat.reduceLeDiff, Nat.reduceMul, Nat.reduceBEq, reduceIte]) ?_ rfl rfl
      cases h
      subst hQ
      simp -implicitDefEqProofs only [go_sem, Nat.reduceEqDiff, Nat.reduceAdd, Nat.reduceLT, Nat.reduceLeDiff, Nat.reduceMul, Nat.reduceBEq, reduceIte, c1, c3, Try.results20]
    · cases h
      subst hQ
      simp -implicitDefEqProofs only [go_sem, Nat.reduceEqDiff, Nat.reduceAdd, Nat.reduceLT, Nat.reduceLeDiff, Nat.reduceMul, Nat.reduceBEq, reduceIte, c1, c3, Try.results20]
  · cases h
    subst hQ
    simp -implicitDefEqProofs only [go_sem, Nat.reduceEqDiff, Nat.reduceAdd, Nat.reduceLT, Nat.reduceLeDiff, Nat.reduceMul, Nat.reduceBEq, reduceIte, c1, Try.results20]
theorem m_term_trim_ev (a0 : TTerm) (r0 : TTerm) (h : m_term_trim a0 = some r0) (d : Nat) (G : Heap) : Tel Try.prog TB d 38 [.agg ((cTTerm a0).map .p)] G (.agg ((cTTerm r0).map .p)) (G) := by
  unfold m_term_trim at h
  refine Tel.intro mix Try.func38 rfl (Nat.le_of_ble_eq_true rfl) {frzAt := fun t => t == 1 || t == 25, boxAt := fun t => if t = 2 then some 2 else none} (by kernel_rfl) (by kernel_rfl) ?_
  generalize hQ : callPost _ _ _ _ _ = Q
  simp -implicitDefEqProofs only [go_sem, Nat.reduceEqDiff, Nat.reduceAdd, Nat.reduceLT, Nat.reduceLeDiff, Nat.reduceMul, Nat.reduceBEq, reduceIte]
  obtain ⟨z3, hL3, h⟩ := bs h
  obtain ⟨I3, hI3⟩ : ∃ I : Int → St → Prop, I = fun v4 s => s.G = fillKey (cut d G) (d + 1) 2 [.box [.csl [], .p (.int .i64 0), .p (.int .i64 0)]] ∧ s.F 1 = .ep (cTTerm a0) 0 ∧ s.F 2 = .bp (d + 1, 2, 0) 0 ∧ s.F 3 = .p (.int .i64 v4) ∧ True := ⟨_, rfl⟩
  obtain ⟨R3, hR3⟩ : ∃ R : (Int) → GE → St → Prop, R = fun v5 e s => e = .exit 0 ∧ s.G = fillKey (cut d G) (d + 1) 2 [.box [.csl [], .p (.int .i64 0), .p (.int .i64 0)]] ∧ s.F 1 = .ep (cTTerm a0) 0 ∧ s.F 2 = .bp (d + 1, 2, 0) 0 ∧ s.F 3 = .p (.int .i64 v5) ∧ True := ⟨_, rfl⟩
  refine lp (ts := []) rfl hL3 I3 R3 ?_ ?_ ?_
  · rw [hI3]
    simp -implicitDefEqProofs only [go_sem, Nat.reduceEqDiff, Nat.reduceAdd, Nat.reduceLT, Nat.reduceLeDiff, Nat.reduceMul, Nat.reduceBEq, reduceIte]
  · clear h hL3
    rintro v4 y s h i
    rw [hI3] at i
    obtain ⟨gi3, i3⟩ := i
    replace h : m_term_trim_L0 a0 (v4) = some y := h
    unfold m_term_trim_L0 at h
    simp -implicitDefEqProofs only [go_sem, Nat.reduceEqDiff, Nat.reduceAdd, Nat.reduceLT, Nat.reduceLeDiff, Nat.reduceMul, Nat.reduceBEq, reduceIte, gi3, i3]
    obtain ⟨v6, hz, h⟩ := bs h
    obtain ⟨R7, hR7⟩ : ∃ R : St → Prop, R = fun s => s.G = fillKey (cut d G) (d + 1) 2 [.box [.csl [], .p (.int .i64 0), .p (.int .i64 0)]] ∧ s.F 1 = .ep (cTTerm a0) 0 ∧ s.F 2 = .bp (d + 1, 2, 0) 0 ∧ s.F 3 = .p (.int .i64 v4) ∧ s.F 18 = .p (.bool v6) ∧ True := ⟨_, rfl⟩
    refine cutR R7 ?_ ?_
    · replace h := hz
      rcases ib h with ⟨c8, h⟩ | ⟨c8, h⟩
      · obtain ⟨v9, hv9, h⟩ := bs h
        replace hv9 := gis hv9
        cases h
        simp -implicitDefEqProofs only [go_sem, Nat.reduceEqDiff, Nat.reduceAdd, Nat.reduceLT, Nat.reduceLeDiff, Nat.reduceMul, Nat.reduceBEq, reduceIte, gi3, i3, c8, hv9]
        rw [hR7]
        simp -implicitDefEqProofs only [go_sem, Nat.reduceEqDiff, Nat.reduceAdd, Nat.reduceLT, Nat.reduceLeDiff, Nat.reduceMul, Nat.reduceBEq, reduceIte, gi3, i3, c8, hv9]
      · cases h
        simp -implicitDefEqProofs only [go_sem, Nat.reduceEqDiff, Nat.reduceAdd, Nat.reduceLT, Nat.reduceLeDiff, Nat.reduceMul, Nat.reduceBEq, reduceIte, gi3, i3, c8]
        rw [hR7]
        simp -implicitDefEqProofs only [go_sem, Nat.reduceEqDiff, Nat.reduceAdd, Nat.reduceLT, Nat.reduceLeDiff, Nat.reduceMul, Nat.reduceBEq, reduceIte, gi3, i3, c8]
    · replace h := h; clear hz
      rintro s i
      rw [hR7] at i
      obtain ⟨gi10, i10⟩ := i
      clear hR7
      try dsimp only at h
      rcases ib h with ⟨c11, h⟩ | ⟨c11, h⟩
      · cases h
        simp -implicitDefEqProofs only [go_sem, Nat.reduceEqDiff, Nat.reduceAdd, Nat.reduceLT, Nat.reduceLeDiff, Nat.reduceMul, Nat.reduceBEq, reduceIte, gi3, i3, gi10, i10, c11]
        rw [hI3]
        simp -implicitDefEqProofs only [go_sem, Nat.reduceEqDiff, Nat.reduceAdd, Nat.reduceLT, Nat.reduceLeDiff, Nat.reduceMul, Nat.reduceBEq, reduceIte, gi3, i3, gi10, i10, c11]
      · cases h
        simp -implicitDefEqProofs only [go_sem, Nat.reduceEqDiff, Nat.reduceAdd, Nat.reduceLT, Nat.reduceLeDiff, Nat.reduceMul, Nat.reduceBEq, reduceIte, gi3, i3, gi10, i10, c11]
        rw [hR3]
        first | refine ⟨rfl, ?_⟩ | refine ⟨(), rfl, ?_⟩
        simp -implicitDefEqProofs only [go_sem, Nat.reduceEqDiff, Nat.reduceAdd, Nat.reduceLT, Nat.reduceLeDiff, Nat.reduceMul, Nat.reduceBEq, reduceIte, gi3, i3, gi10, i10, c11]
  · clear hL3 hI3
    intro e s hr3
    rw [hR3] at hr3
    clear hR3
    revert h hr3
    generalize z3 = v5
    intro h hr3
    try dsimp only at h hr3
    obtain ⟨rfl, gi12, i12⟩ := hr3
    obtain ⟨v13, hv13, h⟩ := bs h
    replace hv13 := subLs hv13
    obtain ⟨r14, hr14, h⟩ := bs h
    simp -implicitDefEqProofs only [go_sem, Nat.reduceEqDiff, Nat.reduceAdd, Nat.reduceLT, Nat.reduceLeDiff, Nat.reduceMul, Nat.reduceBEq, reduceIte, gi12, i12, hv13]
    refine call_frz (r' := .p (.sl (r14.map cTRat))) (m_slices_Clone_api_Rat_ev v13 r14 hr14 (d + 1) empty) (by simp -implicitDefEqProofs only [go_sem, Nat.reduceEqDiff, Nat.reduceAdd, Nat.reduceLT, Nat.reduceLeDiff, Nat.reduceMul, Nat.reduceBEq, reduceIte, gi12, i12, hv13]) rfl (by simp -implicitDefEqProofs only [go_sem, Nat.reduceEqDiff, Nat.reduceAdd, Nat.reduceLT, Nat.reduceLeDiff, Nat.reduceMul, Nat.reduceBEq, reduceIte]) (by simp -implicitDefEqProofs only [go_sem, Nat.reduceEqDiff, Nat.reduceAdd, Nat.reduceLT, Nat.reduceLeDiff, Nat.reduceMul, Nat.reduceBEq, reduceIte]) ?_ rfl rfl
    cases h
    subst hQ
    simp -implicitDefEqProofs only [go_sem, Nat.reduceEqDiff, Nat.reduceAdd, Nat.reduceLT, Nat.reduceLeDiff, Nat.reduceMul, Nat.reduceBEq, reduceIte, gi12, i12, hv13, Try.results38]
theorem m_term_Own_ev (a0 : TTerm) (r0 : TTerm) (h : m_term_Own a0 = some r0) (d : Nat) (G : Heap) : Tel Try.prog TB d 21 [.agg ((cTTerm a0).map .p)] G (.agg ((cTTerm r0).map .p)) (G) := by
  unfold m_term_Own at h
  refine Tel.intro mix Try.func21 rfl (Nat.le_of_ble_eq_true rfl) {frzAt := fun t => t == 1 || t == 4 || t == 6 || t == 9} (by kernel_rfl) (by kernel_rfl) ?_
  generalize hQ : callPost _ _ _ _ _ = Q
  obtain ⟨r1, hr1, h⟩ := bs h
  simp -implicitDefEqProofs only [go_sem, Nat.reduceEqDiff, Nat.reduceAdd, Nat.reduceLT, Nat.reduceLeDiff, Nat.reduceMul, Nat.reduceBEq, reduceIte]
  refine call_frz (r' := .p (.bool r1)) (m_term_Right_ev a0 r1 hr1 (d + 1) empty) (by simp -implicitDefEqProofs only [go_sem, Nat.reduceEqDiff, Nat.reduceAdd, Nat.reduceLT, Nat.reduceLeDiff, Nat.reduceMul, Nat.reduceBEq, reduceIte]) rfl (by simp -implicitDefEqProofs only [go_sem, Nat.reduceEqDiff, Nat.reduceAdd, Nat.reduceLT, Nat.reduceLeDiff, Nat.reduceMul, Nat.reduceBEq, reduceIte]) (by simp -implicitDefEqProofs only [go_sem, Nat.reduceEqDiff, Nat.reduceAdd, Nat.reduceLT, Nat.reduceLeDiff, Nat.reduceMul, Nat.reduceBEq, reduceIte]) ?_ rfl rfl
  rcases ib h with ⟨c2, h⟩ | ⟨c2, h⟩
  · obtain ⟨r3, hr3, h⟩ := bs h
    simp -implicitDefEqProofs only [go_sem, Nat.reduceEqDiff, Nat.reduceAdd, Nat.reduceLT, Nat.reduceLeDiff, Nat.reduceMul, Nat.reduceBEq, reduceIte, c2]
    refine call_frz (r' := .agg [.p (.int .i64 r3.f0), .p (.int .i64 r3.f1)]) (args := []) (caps := []) (m_term_nought_ev  r3 hr3 (d + 1) empty) (wkRs_refl []) rfl (by simp -implicitDefEqProofs only [go_sem, Nat.reduceEqDiff, Nat.reduceAdd, Nat.reduceLT, Nat.reduceLeDiff, Nat.reduceMul, Nat.reduceBEq, reduceIte]) (by simp -implicitDefEqProofs only [go_sem, Nat.reduceEqDiff, Nat.reduceAdd, Nat.reduceLT, Nat.reduceLeDiff, Nat.reduceMul, Nat.reduceBEq, reduceIte]) ?_ rfl rfl
    cases h
    subst hQ
    simp -implicitDefEqProofs only [go_sem, Nat.reduceEqDiff, Nat.reduceAdd, Nat.reduceLT, Nat.reduceLeDiff, Nat.reduceMul, Nat.reduceBEq, reduceIte, c2, Try.results21]
  · obtain ⟨r4, hr4, h⟩ := bs h
    simp -implicitDefEqProofs only [go_sem, Nat.reduceEqDiff, Nat.reduceAdd, Nat.reduceLT, Nat.reduceLeDiff, Nat.reduceMul, Nat.reduceBEq, reduceIte, c2]
    refine call_frz (r' := .agg [.p (.sl (r4.f0.map cTRat)), .p (.int .i64 r4.f1.f0), .p (.int .i64 r4.f1.f1)]) (m_term_trim_ev a0 r4 hr4 (d + 1) empty) (by simp -implicitDefEqProofs only [go_sem, Nat.reduceEqDiff, Nat.reduceAdd, Nat.reduceLT, Nat.reduceLeDiff, Nat.reduceMul, Nat.reduceBEq, reduceIte, c2]) rfl (by simp -implicitDefEqProofs only [go_sem, Nat.reduceEqDiff, Nat.reduceAdd, Nat.reduceLT, Nat.reduceLeDiff, Nat.reduceMul, Nat.reduceBEq, reduceIte]) (by simp -implicitDefEqProofs only [go_sem, Nat.reduceEqDiff, Nat.reduceAdd, Nat.reduceLT, Nat.reduceLeDiff, Nat.reduceMul, Nat.reduceBEq, reduceIte]) ?_ rfl rfl
    cases h
    subst hQ
    simp -implicitDefEqProofs only [go_sem, Nat.reduceEqDiff, Nat.reduceAdd, Nat.reduceLT, Nat.reduceLeDiff, Nat.reduceMul, Nat.reduceBEq, reduceIte, c2, Try.results21]
theorem m_term_Scale_1_ev (a0 : Int) (u0 : TTerm) (u1 : TRat) (r0 : TRat × Int) (h : m_term_Scale_1 a0 u0 u1 = some r0) (d : Nat) (G : Heap) : Tel Try.prog TB d 82 [.p (.int .i64 a0), .ep (cTTerm u0) 0, .ep (cTRat u1) 0] G (.tup [.agg ((cTRat r0.1).map .p), .p (.int .i64 r0.2)]) (G) := by
  unfold m_term_Scale_1 at h
  refine Tel.intro mix Try.func82 rfl (Nat.le_of_ble_eq_true rfl) {frzAt := fun t => t == 8 || t == 10, boxAt := fun t => if t = 4 then some 4 else none} (by kernel_rfl) (by kernel_rfl) ?_
  generalize hQ : callPost _ _ _ _ _ = Q
  obtain ⟨r1, hr1, h⟩ := bs h
  simp -implicitDefEqProofs only [go_sem, Nat.reduceEqDiff, Nat.reduceAdd, Nat.reduceLT, Nat.reduceLeDiff, Nat.reduceMul, Nat.reduceBEq, reduceIte]
  refine call_frz (r' := .agg [.p (.int .i64 r1.f0), .p (.int .i64 r1.f1)]) (m_term_one_ev u0 a0 r1 hr1 (d + 1) empty) (by simp -implicitDefEqProofs only [go_sem, Nat.reduceEqDiff, Nat.reduceAdd, Nat.reduceLT, Nat.reduceLeDiff, Nat.reduceMul, Nat.reduceBEq, reduceIte]) rfl (by simp -implicitDefEqProofs only [go_sem, Nat.reduceEqDiff, Nat.reduceAdd, Nat.reduceLT, Nat.reduceLeDiff, Nat.reduceMul, Nat.reduceBEq, reduceIte]) (by simp -implicitDefEqProofs only [go_sem, Nat.reduceEqDiff, Nat.reduceAdd, Nat.reduceLT, Nat.reduceLeDiff, Nat.reduceMul, Nat.reduceBEq, reduceIte]) ?_ rfl rfl
  obtain ⟨r2, hr2, h⟩ := bs h
  simp -implicitDefEqProofs only [go_sem, Nat.reduceEqDiff, Nat.reduceAdd, Nat.reduceLT, Nat.reduceLeDiff, Nat.reduceMul, Nat.reduceBEq, reduceIte]
  refine call_frz (r' := .tup [.agg [.p (.int .i64 r2.1.f0), .p (.int .i64 r2.1.f1)], .p (.int .i64 r2.2)]) (m_rat_Mul_ev r1 u1 r2 hr2 (d + 1) empty) (by simp -implicitDefEqProofs only [go_sem, Nat.reduceEqDiff, Nat.reduceAdd, Nat.reduceLT, Nat.reduceLeDiff, Nat.reduceMul, Nat.reduceBEq, reduceIte]) rfl (by simp -implicitDefEqProofs only [go_sem, Nat.reduceEqDiff, Nat.reduceAdd, Nat.reduceLT, Nat.reduceLeDiff, Nat.reduceMul, Nat.reduceBEq, reduceIte]) (by simp -implicitDefEqProofs only [go_sem, Nat.reduceEqDiff, Nat.reduceAdd, Nat.reduceLT, Nat.reduceLeDiff, Nat.reduceMul, Nat.reduceBEq, reduceIte]) ?_ rfl rfl
  cases h
  subst hQ
  simp -implicitDefEqProofs only [go_sem, Nat.reduceEqDiff, Nat.reduceAdd, Nat.reduceLT, Nat.reduceLeDiff, Nat.reduceMul, Nat.reduceBEq, reduceIte, Try.results82]
theorem m_term_Add_1_ev (a0 : Int) (u0 : TTerm) (u1 : TTerm) (r0 : TRat × Int) (h : m_term_Add_1 a0 u0 u1 = some r0) (d : Nat) (G : Heap) : Tel Try.prog TB d 69 [.p (.int .i64 a0), .ep (cTTerm u0) 0, .ep (cTTerm u1) 0] G (.tup [.agg ((cTRat r0.1).map .p), .p (.int .i64 r0.2)]) (G) := by
  unfold m_term_Add_1 at h
  refine Tel.intro mix Try.func69 rfl (Nat.le_of_ble_eq_true rfl) {frzAt := fun t => t == 8 || t == 11 || t == 12, boxAt := fun t => if t = 4 then some 4 else none} (by kernel_rfl) (by kernel_rfl) ?_
  generalize hQ : callPost _ _ _ _ _ = Q
  obtain ⟨r1, hr1, h⟩ := bs h
  simp -implicitDefEqProofs only [go_sem, Nat.reduceEqDiff, Nat.reduceAdd, Nat.reduceLT, Nat.reduceLeDiff, Nat.reduceMul, Nat.reduceBEq, reduceIte]
  refine call_frz (r' := .agg [.p (.int .i64 r1.f0), .p (.int .i64 r1.f1)]) (m_term_one_ev u0 a0 r1 hr1 (d + 1) empty) (by simp -implicitDefEqProofs only [go_sem, Nat.reduceEqDiff, Nat.reduceAdd, Nat.reduceLT, Nat.reduceLeDiff, Nat.reduceMul, Nat.reduceBEq, reduceIte]) rfl (by simp -implicitDefEqProofs only [go_sem, Nat.reduceEqDiff, Nat.reduceAdd, Nat.reduceLT, Nat.reduceLeDiff, Nat.reduceMul, Nat.reduceBEq, reduceIte]) (by simp -implicitDefEqProofs only [go_sem, Nat.reduceEqDiff, Nat.reduceAdd, Nat.reduceLT, Nat.reduceLeDiff, Nat.reduceMul, Nat.reduceBEq, reduceIte]) ?_ rfl rfl
  obtain ⟨r2, hr2, h⟩ := bs h
  simp -implicitDefEqProofs only [go_sem, Nat.reduceEqDiff, Nat.reduceAdd, Nat.reduceLT, Nat.reduceLeDiff, Nat.reduceMul, Nat.reduceBEq, reduceIte]
  refine call_frz (r' := .agg [.p (.int .i64 r2.f0), .p (.int .i64 r2.f1)]) (m_term_one_ev u1 a0 r2 hr2 (d + 1) empty) (by simp -implicitDefEqProofs only [go_sem, Nat.reduceEqDiff, Nat.reduceAdd, Nat.reduceLT, Nat.reduceLeDiff, Nat.reduceMul, Nat.reduceBEq, reduceIte]) rfl (by simp -implicitDefEqProofs only [go_sem, Nat.reduceEqDiff, Nat.reduceAdd, Nat.reduceLT, Nat.reduceLeDiff, Nat.reduceMul, Nat.reduceBEq, reduceIte]) (by simp -implicitDefEqProofs only [go_sem, Nat.reduceEqDiff, Nat.reduceAdd, Nat.reduceLT, Nat.reduceLeDiff, Nat.reduceMul, Nat.reduceBEq, reduceIte]) ?_ rfl rfl
  obtain ⟨r3, hr3, h⟩ := bs h
  simp -implicitDefEqProofs only [go_sem, Nat.reduceEqDiff, Nat.reduceAdd, Nat.reduceLT, Nat.reduceLeDiff, Nat.reduceMul, Nat.reduceBEq, reduceIte]
  refine call_frz (r' := .tup [.agg [.p (.int .i64 r3.1.f0), .p (.int .i64 r3.1.f1)], .p (.int .i64 r3.2)]) (m_rat_Add_ev r1 r2 r3 hr3 (d + 1) empty) (by simp -implicitDefEqProofs only [go_sem, Nat.reduceEqDiff, Nat.reduceAdd, Nat.reduceLT, Nat.reduceLeDiff, Nat.reduceMul, Nat.reduceBEq, reduceIte]) rfl (by simp -implicitDefEqProofs only [go_sem, Nat.reduceEqDiff, Nat.reduceAdd, Nat.reduceLT, Nat.reduceLeDiff, Nat.reduceMul, Nat.reduceBEq, reduceIte]) (by simp -implicitDefEqProofs only [go_sem, Nat.reduceEqDiff, Nat.reduceAdd, Nat.reduceLT, Nat.reduceLeDiff, Nat.reduceMul, Nat.reduceBEq, reduceIte]) ?_ rfl rfl
  cases h
  subst hQ
  simp -implicitDefEqProofs only [go_sem, Nat.reduceEqDiff, Nat.reduceAdd, Nat.reduceLT, Nat.reduceLeDiff, Nat.reduceMul, Nat.reduceBEq, reduceIte, Try.results69]
theorem m_term_each_ev (a0 : Int) (a1 : (Int → Option (TRat × Int))) (n1 : FuncId) (q1 : List GV) (hc1 : closeds q1) (hf1 : ∀ x0 r, a1 x0 = some r → ∀ d, Tel Try.prog TB d n1 ([.p (.int .i64 x0)] ++ q1) empty (.tup [.agg ((cTRat r.1).map .p), .p (.int .i64 r.2)]) empty) (r0 : TTerm × Int) (h : m_term_each a0 a1 = some r0) (d : Nat) (G : Heap) : Tel Try.prog TB d 68 [.p (.int .i64 a0), .fn n1 q1] G (.tup [.agg ((cTTerm r0.1).map .p), .p (.int .i64 r0.2)]) (G) := by
  unfold m_term_each at h
  refine Tel.intro mix Try.func68 rfl (Nat.le_of_ble_eq_true rfl) {frzAt := fun t => t == 19 || t == 38, clean := fun r => if r = 3 then [8] else []} (by kernel_rfl) (by kernel_rfl) ?_
  generalize hQ : callPost _ _ _ _ _ = Q
  simp -implicitDefEqProofs only [go_sem, Nat.reduceEqDiff, Nat.reduceAdd, Nat.reduceLT, Nat.reduceLeDiff, Nat.reduceMul, Nat.reduceBEq, reduceIte]
  obtain ⟨z11, hL11, h⟩ := bs h
  obtain ⟨I11, hI11⟩ : ∃ I : (Int × (List TRat) × Int × Int) → St → Prop, I = fun a s => match a with | (v12, v13, v15, v16) => ∃ o14, s.G = fillKey (fillKey (fillKey (cut d G) (d + 1) 4 [.box [.csl [], .p (.int .i64 0), .p (.int .i64 0)]]) (d + 1) 6 [.box [growV o14 (d + 1) (v13.map cTRat), .p (.int .i64 v15), .p (.int .i64 v16)]]) (d + 1) 34 (growO o14 34 2 (v13.map cTRat)) ∧ growOK o14 [34] ∧ s.F 1 = .fn n1 q1 ∧ s.F 4 = .bp (d + 1, 4, 0) 0 ∧ s.F 6 = .bp (d + 1, 6, 0) 0 ∧ s.F 11 = .p (.int .i64 (IntKind.wrap .i64 (a0 + 1))) ∧ s.F 12 = .p (.int .i64 v12) ∧ True := ⟨_, rfl⟩
  obtain ⟨R11, hR11⟩ : ∃ R : (((List TRat) × Int × Int) ⊕ (TTerm × Int)) → GE → St → Prop, R = fun x e s => match x with | .inl (v17, v19, v20) => e = .exit 0 ∧ (∃ o18, s.G = fillKey (fillKey (fillKey (cut d G) (d + 1) 4 [.box [.csl [], .p (.int .i64 0), .p (.int .i64 0)]]) (d + 1) 6 [.box [growV o18 (d + 1) (v17.map cTRat), .p (.int .i64 v19), .p (.int .i64 v20)]]) (d + 1) 34 (growO o18 34 2 (v17.map cTRat)) ∧ growOK o18 [34] ∧ s.F 4 = .bp (d + 1, 4, 0) 0 ∧ s.F 6 = .bp (d + 1, 6, 0) 0 ∧ True) | .inr r => e = .ret ∧ (r = r0 → Q .ret s) := ⟨_, rfl⟩
  refine lp (ts := [8]) rfl hL11 I11 R11 ?_ ?_ ?_
  · rw [hI11]
    refine ⟨none, ?_⟩
    simp -implicitDefEqProofs only [go_sem, Nat.reduceEqDiff, Nat.reduceAdd, Nat.reduceLT, Nat.reduceLeDiff, Nat.reduceMul, Nat.reduceBEq, reduceIte, poisons_closed (d := d + 1) (ts := [8]) _ hc1]
  · clear h hL11
    rintro ⟨v12, v13, v15, v16⟩ y s h i
    rw [hI11] at i
    obtain ⟨o14, gi11, ko14, i11⟩ := i
    replace h : m_term_each_L0 a0 a1 (v12, v13, v15, v16) = some y := h
    unfold m_term_each_L0 at h
    rcases ib h with ⟨c21, h⟩ | ⟨c21, h⟩
    · obtain ⟨r22, hr22, h⟩ := bs h
      simp -implicitDefEqProofs only [go_sem, Nat.reduceEqDiff, Nat.reduceAdd, Nat.reduceLT, Nat.reduceLeDiff, Nat.reduceMul, Nat.reduceBEq, reduceIte, gi11, ko14, i11, c21]
      refine call_frz (r' := .tup [.agg [.p (.int .i64 r22.1.f0), .p (.int .i64 r22.1.f1)], .p (.int .i64 r22.2)]) (hf1 (IntKind.wrap .i64 (v12 - 1)) r22 hr22 (d + 1)) (by simp -implicitDefEqProofs only [go_sem, Nat.reduceEqDiff, Nat.reduceAdd, Nat.reduceLT, Nat.reduceLeDiff, Nat.reduceMul, Nat.reduceBEq, reduceIte, gi11, ko14, i11, c21]) rfl (by simp -implicitDefEqProofs only [go_sem, Nat.reduceEqDiff, Nat.reduceAdd, Nat.reduceLT, Nat.reduceLeDiff, Nat.reduceMul, Nat.reduceBEq, reduceIte, hc1]) (by simp -implicitDefEqProofs only [go_sem, Nat.reduceEqDiff, Nat.reduceAdd, Nat.reduceLT, Nat.reduceLeDiff, Nat.reduceMul, Nat.reduceBEq, reduceIte]) ?_ rfl rfl
      rcases ib h with ⟨c23, h⟩ | ⟨c23, h⟩
      · cases h
        simp -implicitDefEqProofs only [go_sem, Nat.reduceEqDiff, Nat.reduceAdd, Nat.reduceLT, Nat.reduceLeDiff, Nat.reduceMul, Nat.reduceBEq, reduceIte, gi11, ko14, i11, c21, c23]
        rw [hR11]
        refine ⟨rfl, ?_⟩
        intro hr
        subst hr
        subst hQ
        simp -implicitDefEqProofs only [go_sem, Nat.reduceEqDiff, Nat.reduceAdd, Nat.reduceLT, Nat.reduceLeDiff, Nat.reduceMul, Nat.reduceBEq, reduceIte, gi11, ko14, i11, c21, c23, Try.results68]
      · simp -implicitDefEqProofs only [go_sem, Nat.reduceEqDiff, Nat.reduceAdd, Nat.reduceLT, Nat.reduceLeDiff, Nat.reduceMul, Nat.reduceBEq, reduceIte, gi11, ko14, i11, c21, c23]
        obtain ⟨⟨v24, v26, v27⟩, hz, h⟩ := bs h
        obtain ⟨R28, hR28⟩ : ∃ R : St → Prop, R = fun s => ∃ o25, s.G = fillKey (fillKey (fillKey (fillKey (cut d G) (d + 1) 4 [.box [.csl [], .p (.int .i64 0), .p (.int .i64 0)]]) (d + 1) 6 [.box [growV o25 (d + 1) (v24.map cTRat), .p (.int .i64 v26), .p (.int .i64 v27)]]) (d + 1) 8 [.box [.p (.int .i64 r22.1.f0), .p (.int .i64 r22.1.f1)]]) (d + 1) 34 (growO o25 34 2 (v24.map cTRat)) ∧ growOK o25 [34] ∧ s.F 1 = .fn n1 q1 ∧ s.F 4 = .bp (d + 1, 4, 0) 0 ∧ s.F 6 = .bp (d + 1, 6, 0) 0 ∧ s.F 11 = .p (.int .i64 (IntKind.wrap .i64 (a0 + 1))) ∧ s.F 12 = .p (.int .i64 v12) ∧ True := ⟨_, rfl⟩
        refine cutG R28 ?_ ?_
        · replace h := hz
          rcases ib h with ⟨c29, h⟩ | ⟨c29, h⟩
          · cases h
            simp -implicitDefEqProofs only [go_sem, Nat.reduceEqDiff, Nat.reduceAdd, Nat.reduceLT, Nat.reduceLeDiff, Nat.reduceMul, Nat.reduceBEq, reduceIte, gi11, ko14, i11, c21, c23, c29]
            rw [hR28]
            refine ⟨o14, ?_⟩
            simp -implicitDefEqProofs only [go_sem, Nat.reduceEqDiff, Nat.reduceAdd, Nat.reduceLT, Nat.reduceLeDiff, Nat.reduceMul, Nat.reduceBEq, reduceIte, gi11, ko14, i11, c21, c23, c29]
          · obtain ⟨_, c30, h⟩ := bs h
            replace c30 := rqs c30
            simp -implicitDefEqProofs only [go_sem, Nat.reduceEqDiff, Nat.reduceAdd, Nat.reduceLT, Nat.reduceLeDiff, Nat.reduceMul, Nat.reduceBEq, reduceIte, gi11, ko14, i11, c21, c23, c29, c30]
            refine append_G (o := o14) (ts := [34]) (es := (v13 : List TRat).map cTRat) (xs := ([r22.1] : List TRat).map cTRat) (ho := growOK.sub ko14 (by decide)) (hG := by simp -implicitDefEqProofs only [go_sem, Nat.reduceEqDiff, Nat.reduceAdd, Nat.reduceLT, Nat.reduceLeDiff, Nat.reduceMul, Nat.reduceBEq, reduceIte, gi11, ko14, i11, c21, c23, c29, c30]) (hj := by simp -implicitDefEqProofs only [go_sem, Nat.reduceEqDiff, Nat.reduceAdd, Nat.reduceLT, Nat.reduceLeDiff, Nat.reduceMul, Nat.reduceBEq, reduceIte]) (he := el30) (hx := by simp -implicitDefEqProofs only [go_sem, Nat.reduceEqDiff, Nat.reduceAdd, Nat.reduceLT, Nat.reduceLeDiff, Nat.reduceMul, Nat.reduceBEq, reduceIte, gi11, ko14, i11, c21, c23, c29, c30]) (h1 := by simp -implicitDefEqProofs only [go_sem, Nat.reduceEqDiff, Nat.reduceAdd, Nat.reduceLT, Nat.reduceLeDiff, Nat.reduceMul, Nat.reduceBEq, reduceIte]) (h2 := by simp -implicitDefEqProofs only [go_sem, Nat.reduceEqDiff, Nat.reduceAdd, Nat.reduceLT, Nat.reduceLeDiff, Nat.reduceMul, Nat.reduceBEq, reduceIte]) (ha := rfl) (hra := rfl) (hb := by simpa using c30) (hbb := by decide) ?_
            intro o31 ko31
            cases h
            simp -implicitDefEqProofs only [go_sem, Nat.reduceEqDiff, Nat.reduceAdd, Nat.reduceLT, Nat.reduceLeDiff, Nat.reduceMul, Nat.reduceBEq, reduceIte, gi11, ko14, i11, c21, c23, c29, c30, ko31]
            rw [hR28]
            refine ⟨o31, ?_⟩
            simp -implicitDefEqProofs only [go_sem, Nat.reduceEqDiff, Nat.reduceAdd, Nat.reduceLT, Nat.reduceLeDiff, Nat.reduceMul, Nat.reduceBEq, reduceIte, gi11, ko14, i11, c21, c23, c29, c30, ko31]
        · replace h := h; clear hz
          rintro s i
          rw [hR28] at i
          obtain ⟨o25, gi32, ko25, i32⟩ := i
          clear hR28
          try dsimp only at h
          cases h
          simp -implicitDefEqProofs only [go_sem, Nat.reduceEqDiff, Nat.reduceAdd, Nat.reduceLT, Nat.reduceLeDiff, Nat.reduceMul, Nat.reduceBEq, reduceIte, gi11, ko14, i11, c21, c23, gi32, ko25, i32]
          rw [hI11]
          refine ⟨o25, ?_⟩
          simp -implicitDefEqProofs only [go_sem, Nat.reduceEqDiff, Nat.reduceAdd, Nat.reduceLT, Nat.reduceLeDiff, Nat.reduceMul, Nat.reduceBEq, reduceIte, gi11, ko14, i11, c21, c23, gi32, ko25, i32, poison_grow (d := d + 1) (ts := [8]) ko25 (by decide), poisons_closed (d := d + 1) (ts := [8]) _ hc1]
    · cases h
      simp -implicitDefEqProofs only [go_sem, Nat.reduceEqDiff, Nat.reduceAdd, Nat.reduceLT, Nat.reduceLeDiff, Nat.reduceMul, Nat.reduceBEq, reduceIte, gi11, ko14, i11, c21]
      rw [hR11]
      first | refine ⟨rfl, o14, ?_⟩ | refine ⟨(), rfl, o14, ?_⟩
      simp -implicitDefEqProofs only [go_sem, Nat.reduceEqDiff, Nat.reduceAdd, Nat.reduceLT, Nat.reduceLeDiff, Nat.reduceMul, Nat.reduceBEq, reduceIte, gi11, ko14, i11, c21]
  · clear hL11 hI11
    intro e s hr11
    rw [hR11] at hr11
    clear hR11
    rcases z11 with ⟨v17, v19, v20⟩ | r
    · try dsimp only at h hr11
      obtain ⟨rfl, o18, gi33, ko18, i33⟩ := hr11
      obtain ⟨r34, hr34, h⟩ := bs h
      simp -implicitDefEqProofs only [go_sem, Nat.reduceEqDiff, Nat.reduceAdd, Nat.reduceLT, Nat.reduceLeDiff, Nat.reduceMul, Nat.reduceBEq, reduceIte, gi33, ko18, i33]
      refine call_frz (r' := .agg [.p (.sl (r34.f0.map cTRat)), .p (.int .i64 r34.f1.f0), .p (.int .i64 r34.f1.f1)]) (m_term_trim_ev (⟨v17, (⟨v19, v20⟩ : TRat)⟩ : TTerm) r34 hr34 (d + 1) empty) (by simp -implicitDefEqProofs only [go_sem, Nat.reduceEqDiff, Nat.reduceAdd, Nat.reduceLT, Nat.reduceLeDiff, Nat.reduceMul, Nat.reduceBEq, reduceIte, gi33, ko18, i33]) rfl (by simp -implicitDefEqProofs only [go_sem, Nat.reduceEqDiff, Nat.reduceAdd, Nat.reduceLT, Nat.reduceLeDiff, Nat.reduceMul, Nat.reduceBEq, reduceIte, hc1]) (by simp -implicitDefEqProofs only [go_sem, Nat.reduceEqDiff, Nat.reduceAdd, Nat.reduceLT, Nat.reduceLeDiff, Nat.reduceMul, Nat.reduceBEq, reduceIte]) ?_ rfl rfl
      cases h
      subst hQ
      simp -implicitDefEqProofs only [go_sem, Nat.reduceEqDiff, Nat.reduceAdd, Nat.reduceLT, Nat.reduceLeDiff, Nat.reduceMul, Nat.reduceBEq, reduceIte, gi33, ko18, i33, Try.results68]
    · try dsimp only at h hr11
      obtain ⟨rfl, hr11⟩ := hr11
      cases h
      try simp -implicitDefEqProofs only [go_sem, Nat.reduceEqDiff, Nat.reduceAdd, Nat.reduceLT, Nat.reduceLeDiff, Nat.reduceMul, Nat.reduceBEq, reduceIte]
      exact hr11 rfl
theorem m_term_Add_ev (a0 : TTerm) (a1 : TTerm) (r0 : TTerm × Int) (h : m_term_Add a0 a1 = some r0) (d : Nat) (G : Heap) : Tel Try.prog TB d 56 [.agg ((cTTerm a0).map .p), .agg ((cTTerm a1).map .p)] G (.tup [.agg ((cTTerm r0.1).map .p), .p (.int .i64 r0.2)]) (G) := by
  unfold m_term_Add at h
  refine Tel.intro mix Try.func56 rfl (Nat.le_of_ble_eq_true rfl) {frzAt := fun t => t == 2 || t == 3 || t == 7 || t == 11 || t == 23} (by kernel_rfl) (by kernel_rfl) ?_
  generalize hQ : callPost _ _ _ _ _ = Q
  obtain ⟨r1, hr1, h⟩ := bs h
  simp -implicitDefEqProofs only [go_sem, Nat.reduceEqDiff, Nat.reduceAdd, Nat.reduceLT, Nat.reduceLeDiff, Nat.reduceMul, Nat.reduceBEq, reduceIte]
  refine call_frz (r' := .p (.bool r1)) (m_term_Right_ev a0 r1 hr1 (d + 1) empty) (by simp -implicitDefEqProofs only [go_sem, Nat.reduceEqDiff, Nat.reduceAdd, Nat.reduceLT, Nat.reduceLeDiff, Nat.reduceMul, Nat.reduceBEq, reduceIte]) rfl (by simp -implicitDefEqProofs only [go_sem, Nat.reduceEqDiff, Nat.reduceAdd, Nat.reduceLT, Nat.reduceLeDiff, Nat.reduceMul, Nat.reduceBEq, reduceIte]) (by simp -implicitDefEqProofs only [go_sem, Nat.reduceEqDiff, Nat.reduceAdd, Nat.reduceLT, Nat.reduceLeDiff, Nat.reduceMul, Nat.reduceBEq, reduceIte]) ?_ rfl rfl
  simp -implicitDefEqProofs only [go_sem, Nat.reduceEqDiff, Nat.reduceAdd, Nat.reduceLT, Nat.reduceLeDiff, Nat.reduceMul, Nat.reduceBEq, reduceIte]
  obtain ⟨v2, hz, h⟩ := bs h
  obtain ⟨R3, hR3⟩ : ∃ R : St → Prop, R = fun s => s.G = fillKey (cut d G) (d + 1) 4 [.box [.csl [], .p (.int .i64 0), .p (.int .i64 0)]] ∧ s.F 2 = .ep (cTTerm a0) 0 ∧ s.F 3 = .ep (cTTerm a1) 0 ∧ s.F 4 = .bp (d + 1, 4, 0) 0 ∧ s.F 13 = .p (.bool v2) ∧ True := ⟨_, rfl⟩
  refine cutR R3 ?_ ?_
  · replace h := hz
    rcases ib h with ⟨c4, h⟩ | ⟨c4, h⟩
    · cases h
      simp -implicitDefEqProofs only [go_sem, Nat.reduceEqDiff, Nat.reduceAdd, Nat.reduceLT, Nat.reduceLeDiff, Nat.reduceMul, Nat.reduceBEq, reduceIte, c4]
      rw [hR3]
      simp -implicitDefEqProofs only [go_sem, Nat.reduceEqDiff, Nat.reduceAdd, Nat.reduceLT, Nat.reduceLeDiff, Nat.reduceMul, Nat.reduceBEq, reduceIte, c4]
    · obtain ⟨r5, hr5, h⟩ := bs h
      simp -implicitDefEqProofs only [go_sem, Nat.reduceEqDiff, Nat.reduceAdd, Nat.reduceLT, Nat.reduceLeDiff, Nat.reduceMul, Nat.reduceBEq, reduceIte, c4]
      refine call_frz (r' := .p (.bool r5)) (m_term_Right_ev a1 r5 hr5 (d + 1) empty) (by simp -implicitDefEqProofs only [go_sem, Nat.reduceEqDiff, Nat.reduceAdd, Nat.reduceLT, Nat.reduceLeDiff, Nat.reduceMul, Nat.reduceBEq, reduceIte, c4]) rfl (by simp -implicitDefEqProofs only [go_sem, Nat.reduceEqDiff, Nat.reduceAdd, Nat.reduceLT, Nat.reduceLeDiff, Nat.reduceMul, Nat.reduceBEq, reduceIte]) (by simp -implicitDefEqProofs only [go_sem, Nat.reduceEqDiff, Nat.reduceAdd, Nat.reduceLT, Nat.reduceLeDiff, Nat.reduceMul, Nat.reduceBEq, reduceIte]) ?_ rfl rfl
      cases h
      simp -implicitDefEqProofs only [go_sem, Nat.reduceEqDiff, Nat.reduceAdd, Nat.reduceLT, Nat.reduceLeDiff, Nat.reduceMul, Nat.reduceBEq, reduceIte, c4]
      rw [hR3]
      simp -implicitDefEqProofs only [go_sem, Nat.reduceEqDiff, Nat.reduceAdd, Nat.reduceLT, Nat.reduceLeDiff, Nat.reduceMul, Nat.reduceBEq, reduceIte, c4]
  · replace h := h; clear hz
    rintro s i
    rw [hR3] at i
    obtain ⟨gi6, i6⟩ := i
    clear hR3
    try dsimp only at h
    rcases ib h with ⟨c7, h⟩ | ⟨c7, h⟩
    · cases h
      subst hQ
      simp -implicitDefEqProofs only [go_sem, Nat.reduceEqDiff, Nat.reduceAdd, Nat.reduceLT, Nat.reduceLeDiff, Nat.reduceMul, Nat.reduceBEq, reduceIte, gi6, i6, c7, Try.results56]
    · obtain ⟨r8, hr8, h⟩ := bs h
      simp -implicitDefEqProofs only [go_sem, Nat.reduceEqDiff, Nat.reduceAdd, Nat.reduceLT, Nat.reduceLeDiff, Nat.reduceMul, Nat.reduceBEq, reduceIte, gi6, i6, c7]
      refine call_frz (r' := .tup [.agg [.p (.sl (r8.1.f0.map cTRat)), .p (.int .i64 r8.1.f1.f0), .p (.int .i64 r8.1.f1.f1)], .p (.int .i64 r8.2)]) (m_term_each_ev (if (a0.f0.length : Int) < (a1.f0.length : Int) then (a1.f0.length : Int) else (a0.f0.length : Int)) (fun x0 => m_term_Add_1 x0 a0 a1) 69 [.ep (cTTerm a0) 0, .ep (cTTerm a1) 0] (by simp -implicitDefEqProofs only [go_sem, Nat.reduceEqDiff, Nat.reduceAdd, Nat.reduceLT, Nat.reduceLeDiff, Nat.reduceMul, Nat.reduceBEq, reduceIte]) (fun x0 r h d => m_term_Add_1_ev x0 a0 a1 r h d empty) r8 hr8 (d + 1) empty) (by simp -implicitDefEqProofs only [go_sem, Nat.reduceEqDiff, Nat.reduceAdd, Nat.reduceLT, Nat.reduceLeDiff, Nat.reduceMul, Nat.reduceBEq, reduceIte, gi6, i6, c7]) rfl (by simp -implicitDefEqProofs only [go_sem, Nat.reduceEqDiff, Nat.reduceAdd, Nat.reduceLT, Nat.reduceLeDiff, Nat.reduceMul, Nat.reduceBEq, reduceIte]) (by simp -implicitDefEqProofs only [go_sem, Nat.reduceEqDiff, Nat.reduceAdd, Nat.reduceLT, Nat.reduceLeDiff, Nat.reduceMul, Nat.reduceBEq, reduceIte]) ?_ rfl rfl
      cases h
      subst hQ
      simp -implicitDefEqProofs only [go_sem, Nat.reduceEqDiff, Nat.reduceAdd, Nat.reduceLT, Nat.reduceLeDiff, Nat.reduceMul, Nat.reduceBEq, reduceIte, gi6, i6, c7, Try.results56]
theorem m_term_Scale_ev (a0 : TTerm) (a1 : TRat) (r0 : TTerm × Int) (h : m_term_Scale a0 a1 = some r0) (d : Nat) (G : Heap) : Tel Try.prog TB d 67 [.agg ((cTTerm a0).map .p), .agg ((cTRat a1).map .p)] G (.tup [.agg ((cTTerm r0.1).map .p), .p (.int .i64 r0.2)]) (G) := by
  unfold m_term_Scale at h
  refine Tel.intro mix Try.func67 rfl (Nat.le_of_ble_eq_true rfl) {frzAt := fun t => t == 2 || t == 3 || t == 7 || t == 11 || t == 19} (by kernel_rfl) (by kernel_rfl) ?_
  generalize hQ : callPost _ _ _ _ _ = Q
  obtain ⟨r1, hr1, h⟩ := bs h
  simp -implicitDefEqProofs only [go_sem, Nat.reduceEqDiff, Nat.reduceAdd, Nat.reduceLT, Nat.reduceLeDiff, Nat.reduceMul, Nat.reduceBEq, reduceIte]
  refine call_frz (r' := .p (.bool r1)) (m_term_Right_ev a0 r1 hr1 (d + 1) empty) (by simp -implicitDefEqProofs only [go_sem, Nat.reduceEqDiff, Nat.reduceAdd, Nat.reduceLT, Nat.reduceLeDiff, Nat.reduceMul, Nat.reduceBEq, reduceIte]) rfl (by simp -implicitDefEqProofs only [go_sem, Nat.reduceEqDiff, Nat.reduceAdd, Nat.reduceLT, Nat.reduceLeDiff, Nat.reduceMul, Nat.reduceBEq, reduceIte]) (by simp -implicitDefEqProofs only [go_sem, Nat.reduceEqDiff, Nat.reduceAdd, Nat.reduceLT, Nat.reduceLeDiff, Nat.reduceMul, Nat.reduceBEq, reduceIte]) ?_ rfl rfl
  simp -implicitDefEqProofs only [go_sem, Nat.reduceEqDiff, Nat.reduceAdd, Nat.reduceLT, Nat.reduceLeDiff, Nat.reduceMul, Nat.reduceBEq, reduceIte]
  obtain ⟨v2, hz, h⟩ := bs h
  obtain ⟨R3, hR3⟩ : ∃ R : St → Prop, R = fun s => s.G = fillKey (cut d G) (d + 1) 4 [.box [.csl [], .p (.int .i64 0), .p (.int .i64 0)]] ∧ s.F 2 = .ep (cTTerm a0) 0 ∧ s.F 3 = .ep (cTRat a1) 0 ∧ s.F 4 = .bp (d + 1, 4, 0) 0 ∧ s.F 13 = .p (.bool v2) ∧ True := ⟨_, rfl⟩
  refine cutR R3 ?_ ?_
  · replace h := hz
    rcases ib h with ⟨c4, h⟩ | ⟨c4, h⟩
    · cases h
      simp -implicitDefEqProofs only [go_sem, Nat.reduceEqDiff, Nat.reduceAdd, Nat.reduceLT, Nat.reduceLeDiff, Nat.reduceMul, Nat.reduceBEq, reduceIte, c4]
      rw [hR3]
      simp -implicitDefEqProofs only [go_sem, Nat.reduceEqDiff, Nat.reduceAdd, Nat.reduceLT, Nat.reduceLeDiff, Nat.reduceMul, Nat.reduceBEq, reduceIte, c4]
    · obtain ⟨r5, hr5, h⟩ := bs h
      simp -implicitDefEqProofs only [go_sem, Nat.reduceEqDiff, Nat.reduceAdd, Nat.reduceLT, Nat.reduceLeDiff, Nat.reduceMul, Nat.reduceBEq, reduceIte, c4]
      refine call_frz (r' := .p (.bool r5)) (m_rat_Right_ev a1 r5 hr5 (d + 1) empty) (by simp -implicitDefEqProofs only [go_sem, Nat.reduceEqDiff, Nat.reduceAdd, Nat.reduceLT, Nat.reduceLeDiff, Nat.reduceMul, Nat.reduceBEq, reduceIte, c4]) rfl (by simp -implicitDefEqProofs only [go_sem, Nat.reduceEqDiff, Nat.reduceAdd, Nat.reduceLT, Nat.reduceLeDiff, Nat.reduceMul, Nat.reduceBEq, reduceIte]) (by simp -implicitDefEqProofs only [go_sem, Nat.reduceEqDiff, Nat.reduceAdd, Nat.reduceLT, Nat.reduceLeDiff, Nat.reduceMul, Nat.reduceBEq, reduceIte]) ?_ rfl rfl
      cases h
      simp -implicitDefEqProofs only [go_sem, Nat.reduceEqDiff, Nat.reduceAdd, Nat.reduceLT, Nat.reduceLeDiff, Nat.reduceMul, Nat.reduceBEq, reduceIte, c4]
      rw [hR3]
      simp -implicitDefEqProofs only [go_sem, Nat.reduceEqDiff, Nat.reduceAdd, Nat.reduceLT, Nat.reduceLeDiff, Nat.reduceMul, Nat.reduceBEq, reduceIte, c4]
  · replace h := h; clear hz
    rintro s i
    rw [hR3] at i
    obtain ⟨gi6, i6⟩ := i
    clear hR3
    try dsimp only at h
    rcases ib h with ⟨c7, h⟩ | ⟨c7, h⟩
    · cases h
      subst hQ
      simp -implicitDefEqProofs only [go_sem, Nat.reduceEqDiff, Nat.reduceAdd, Nat.reduceLT, Nat.reduceLeDiff, Nat.reduceMul, Nat.reduceBEq, reduceIte, gi6, i6, c7, Try.results67]
    · obtain ⟨r8, hr8, h⟩ := bs h
      simp -implicitDefEqProofs only [go_sem, Nat.reduceEqDiff, Nat.reduceAdd, Nat.reduceLT, Nat.reduceLeDiff, Nat.reduceMul, Nat.reduceBEq, reduceIte, gi6, i6, c7]
      refine call_frz (r' := .tup [.agg [.p (.sl (r8.1.f0.map cTRat)), .p (.int .i64 r8.1.f1.f0), .p (.int .i64 r8.1.f1.f1)], .p (.int .i64 r8.2)]) (m_term_each_ev (a0.f0.length : Int) (fun x0 => m_term_Scale_1 x0 a0 a1) 82 [.ep (cTTerm a0) 0, .ep (cTRat a1) 0] (by simp -implicitDefEqProofs only [go_sem, Nat.reduceEqDiff, Nat.reduceAdd, Nat.reduceLT, Nat.reduceLeDiff, Nat.reduceMul, Nat.reduceBEq, reduceIte]) (fun x0 r h d => m_term_Scale_1_ev x0 a0 a1 r h d empty) r8 hr8 (d + 1) empty) (by simp -implicitDefEqProofs only [go_sem, Nat.reduceEqDiff, Nat.reduceAdd, Nat.reduceLT, Nat.reduceLeDiff, Nat.reduceMul, Nat.reduceBEq, reduceIte, gi6, i6, c7]) rfl (by simp -implicitDefEqProofs only [go_sem, Nat.reduceEqDiff, Nat.reduceAdd, Nat.reduceLT, Nat.reduceLeDiff, Nat.reduceMul, Nat.reduceBEq, reduceIte]) (by simp -implicitDefEqProofs only [go_sem, Nat.reduceEqDiff, Nat.reduceAdd, Nat.reduceLT, Nat.reduceLeDiff, Nat.reduceMul, Nat.reduceBEq, reduceIte]) ?_ rfl rfl
      cases h
      subst hQ
      simp -implicitDefEqProofs only [go_sem, Nat.reduceEqDiff, Nat.reduceAdd, Nat.reduceLT, Nat.reduceLeDiff, Nat.reduceMul, Nat.reduceBEq, reduceIte, gi6, i6, c7, Try.results67]
theorem m_ref02_zero_ev  (r0 : TRat) (h : m_ref02_zero  = some r0) (d : Nat) (G : Heap) : Tel Try.prog TB d 32 [] G (.agg ((cTRat r0).map .p)) (G) := by
  unfold m_ref02_zero at h
  refine Tel.intro mix Try.func32 rfl (Nat.le_of_ble_eq_true rfl) {} (by kernel_rfl) (by kernel_rfl) ?_
  generalize hQ : callPost _ _ _ _ _ = Q
  cases h
  subst hQ
  simp -implicitDefEqProofs only [go_sem, Nat.reduceEqDiff, Nat.reduceAdd, Nat.reduceLT, Nat.reduceLeDiff, Nat.reduceMul, Nat.reduceBEq, reduceIte, Try.results32]
theorem m_ref02_At_ev (a0 : TTerm) (a1 : Int) (r0 : TRat) (h : m_ref02_At a0 a1 = some r0) (d : Nat) (G : Heap) : Tel Try.prog TB d 16 [.agg ((cTTerm a0).map .p), .p (.int .i64 a1)] G (.agg ((cTRat r0).map .p)) (G) := by
  unfold m_ref02_At at h
  refine Tel.intro mix Try.func16 rfl (Nat.le_of_ble_eq_true rfl) {frzAt := fun t => t == 2 || t == 14} (by kernel_rfl) (by kernel_rfl) ?_
  generalize hQ : callPost _ _ _ _ _ = Q
  rcases ib h with ⟨c1, h⟩ | ⟨c1, h⟩
  · obtain ⟨r2, hr2, h⟩ := bs h
    simp -implicitDefEqProofs only [go_sem, Nat.reduceEqDiff, Nat.reduceAdd, Nat.reduceLT, Nat.reduceLeDiff, Nat.reduceMul, Nat.reduceBEq, reduceIte, c1]
    refine call_frz (r' := .agg [.p (.int .i64 r2.f0), .p (.int .i64 r2.f1)]) (args := []) (caps := []) (m_ref02_zero_ev  r2 hr2 (d + 1) empty) (wkRs_refl []) rfl (by simp -implicitDefEqProofs only [go_sem, Nat.reduceEqDiff, Nat.reduceAdd, Nat.reduceLT, Nat.reduceLeDiff, Nat.reduceMul, Nat.reduceBEq, reduceIte]) (by simp -implicitDefEqProofs only [go_sem, Nat.reduceEqDiff, Nat.reduceAdd, Nat.reduceLT, Nat.reduceLeDiff, Nat.reduceMul, Nat.reduceBEq, reduceIte]) ?_ rfl rfl
    cases h
    subst hQ
    simp -implicitDefEqProofs only [go_sem, Nat.reduceEqDiff, Nat.reduceAdd, Nat.reduceLT, Nat.reduceLeDiff, Nat.reduceMul, Nat.reduceBEq, reduceIte, c1, Try.results16]
  · rcases ib h with ⟨c3, h⟩ | ⟨c3, h⟩
    · obtain ⟨r4, hr4, h⟩ := bs h
      simp -implicitDefEqProofs only [go_sem, Nat.reduceEqDiff, Nat.reduceAdd, Nat.reduceLT, Nat.reduceLeDiff, Nat.reduceMul, Nat.reduceBEq, reduceIte, c1, c3]
      refine call_frz (r' := .agg [.p (.int .i64 r4.f0), .p (.int .i64 r4.f1)]) (args := []) (caps := []) (m_ref02_zero_ev  r4 hr4 (d + 1) empty) (wkRs_refl []) rfl (by simp -implicitDefEqProofs only [go_sem, Nat.reduceEqDiff, Nat.reduceAdd, Nat.reduceLT, Nat.reduceLeDiff, Nat.reduceMul, Nat.reduceBEq, reduceIte]) (by simp -implicitDefEqProofs only [go_sem, Nat.reduceEqDiff, Nat.reduceAdd, Nat.reduceLT, Nat.reduceLeDiff, Nat.reduceMul, Nat.reduceBEq, reduceIte]) ?_ rfl rfl
      cases h
      subst hQ
      simp -implicitDefEqProofs only [go_sem, Nat.reduceEqDiff, Nat.reduceAdd, Nat.reduceLT, Nat.reduceLeDiff, Nat.reduceMul, Nat.reduceBEq, reduceIte, c1, c3, Try.results16]
    · obtain ⟨v5, hv5, h⟩ := bs h
      replace hv5 := gis hv5
      cases h
      subst hQ
      simp -implicitDefEqProofs only [go_sem, Nat.reduceEqDiff, Nat.reduceAdd, Nat.reduceLT, Nat.reduceLeDiff, Nat.reduceMul, Nat.reduceBEq, reduceIte, c1, c3, hv5, Try.results16]
theorem m_ref02_Right_ev (a0 : TTerm) (r0 : Bool) (h : m_ref02_Right a0 = some r0) (d : Nat) (G : Heap) : Tel Try.prog TB d 25 [.agg ((cTTerm a0).map .p)] G (.p (.bool r0)) (G) := by
  unfold m_ref02_Right at h
  refine Tel.intro mix Try.func25 rfl (Nat.le_of_ble_eq_true rfl) {frzAt := fun t => t == 1 || t == 16 || t == 25} (by kernel_rfl) (by kernel_rfl) ?_
  generalize hQ : callPost _ _ _ _ _ = Q
  simp -implicitDefEqProofs only [go_sem, Nat.reduceEqDiff, Nat.reduceAdd, Nat.reduceLT, Nat.reduceLeDiff, Nat.reduceMul, Nat.reduceBEq, reduceIte]
  obtain ⟨z3, hL3, h⟩ := bs h
  obtain ⟨I3, hI3⟩ : ∃ I : Int → St → Prop, I = fun v4 s => s.G = cut d G ∧ s.F 1 = .ep (cTTerm a0) 0 ∧ s.F 3 = .p (.int .i64 v4) ∧ True := ⟨_, rfl⟩
  obtain ⟨R3, hR3⟩ : ∃ R : ((Unit) ⊕ (Bool)) → GE → St → Prop, R = fun x e s => match x with | .inl _ => e = .exit 0 ∧ s.G = cut d G ∧ s.F 1 = .ep (cTTerm a0) 0 ∧ True | .inr r => e = .ret ∧ (r = r0 → Q .ret s) := ⟨_, rfl⟩
  refine lp (ts := []) rfl hL3 I3 R3 ?_ ?_ ?_
  · rw [hI3]
    simp -implicitDefEqProofs only [go_sem, Nat.reduceEqDiff, Nat.reduceAdd, Nat.reduceLT, Nat.reduceLeDiff, Nat.reduceMul, Nat.reduceBEq, reduceIte]
  · clear h hL3
    rintro v4 y s h i
    rw [hI3] at i
    obtain ⟨gi3, i3⟩ := i
    replace h : m_ref02_Right_L0 a0 (v4) = some y := h
    unfold m_ref02_Right_L0 at h
    rcases ib h with ⟨c5, h⟩ | ⟨c5, h⟩
    · obtain ⟨v6, hv6, h⟩ := bs h
      replace hv6 := gis hv6
      obtain ⟨r7, hr7, h⟩ := bs h
      simp -implicitDefEqProofs only [go_sem, Nat.reduceEqDiff, Nat.reduceAdd, Nat.reduceLT, Nat.reduceLeDiff, Nat.reduceMul, Nat.reduceBEq, reduceIte, gi3, i3, c5, hv6]
      refine call_frz (r' := .p (.bool r7)) (m_ref01_Right_ev v6 r7 hr7 (d + 1) empty) (by simp -implicitDefEqProofs only [go_sem, Nat.reduceEqDiff, Nat.reduceAdd, Nat.reduceLT, Nat.reduceLeDiff, Nat.reduceMul, Nat.reduceBEq, reduceIte, gi3, i3, c5, hv6]) rfl (by simp -implicitDefEqProofs only [go_sem, Nat.reduceEqDiff, Nat.reduceAdd, Nat.reduceLT, Nat.reduceLeDiff, Nat.reduceMul, Nat.reduceBEq, reduceIte]) (by simp -implicitDefEqProofs only [go_sem, Nat.reduceEqDiff, Nat.reduceAdd, Nat.reduceLT, Nat.reduceLeDiff, Nat.reduceMul, Nat.reduceBEq, reduceIte]) ?_ rfl rfl
      rcases ib h with ⟨c8, h⟩ | ⟨c8, h⟩
      · cases h
        simp -implicitDefEqProofs only [go_sem, Nat.reduceEqDiff, Nat.reduceAdd, Nat.reduceLT, Nat.reduceLeDiff, Nat.reduceMul, Nat.reduceBEq, reduceIte, gi3, i3, c5, hv6, c8]
        rw [hR3]
        refine ⟨rfl, ?_⟩
        intro hr
        subst hr
        subst hQ
        simp -implicitDefEqProofs only [go_sem, Nat.reduceEqDiff, Nat.reduceAdd, Nat.reduceLT, Nat.reduceLeDiff, Nat.reduceMul, Nat.reduceBEq, reduceIte, gi3, i3, c5, hv6, c8, Try.results25]
      · cases h
        simp -implicitDefEqProofs only [go_sem, Nat.reduceEqDiff, Nat.reduceAdd, Nat.reduceLT, Nat.reduceLeDiff, Nat.reduceMul, Nat.reduceBEq, reduceIte, gi3, i3, c5, hv6, c8]
        rw [hI3]
        simp -implicitDefEqProofs only [go_sem, Nat.reduceEqDiff, Nat.reduceAdd, Nat.reduceLT, Nat.reduceLeDiff, Nat.reduceMul, Nat.reduceBEq, reduceIte, gi3, i3, c5, hv6, c8]
    · cases h
      simp -implicitDefEqProofs only [go_sem, Nat.reduceEqDiff, Nat.reduceAdd, Nat.reduceLT, Nat.reduceLeDiff, Nat.reduceMul, Nat.reduceBEq, reduceIte, gi3, i3, c5]
      rw [hR3]
      first | refine ⟨rfl, ?_⟩ | refine ⟨(), rfl, ?_⟩
      simp -implicitDefEqProofs only [go_sem, Nat.reduceEqDiff, Nat.reduceAdd, Nat.reduceLT, Nat.reduceLeDiff, Nat.reduceMul, Nat.reduceBEq, reduceIte, gi3, i3, c5]
  · clear hL3 hI3
    intro e s hr3
    rw [hR3] at hr3
    clear hR3
    rcases z3 with _ | r
    · try dsimp only at h hr3
      obtain ⟨rfl, gi9, i9⟩ := hr3
      rcases ib h with ⟨c10, h⟩ | ⟨c10, h⟩
      · obtain ⟨r11, hr11, h⟩ := bs h
        simp -implicitDefEqProofs only [go_sem, Nat.reduceEqDiff, Nat.reduceAdd, Nat.reduceLT, Nat.reduceLeDiff, Nat.reduceMul, Nat.reduceBEq, reduceIte, gi9, i9, c10]
        refine call_frz (r' := .p (.bool r11)) (m_ref01_Right_ev a0.f1 r11 hr11 (d + 1) empty) (by simp -implicitDefEqProofs only [go_sem, Nat.reduceEqDiff, Nat.reduceAdd, Nat.reduceLT, Nat.reduceLeDiff, Nat.reduceMul, Nat.reduceBEq, reduceIte, gi9, i9, c10]) rfl (by simp -implicitDefEqProofs only [go_sem, Nat.reduceEqDiff, Nat.reduceAdd, Nat.reduceLT, Nat.reduceLeDiff, Nat.reduceMul, Nat.reduceBEq, reduceIte]) (by simp -implicitDefEqProofs only [go_sem, Nat.reduceEqDiff, Nat.reduceAdd, Nat.reduceLT, Nat.reduceLeDiff, Nat.reduceMul, Nat.reduceBEq, reduceIte]) ?_ rfl rfl
        cases h
        subst hQ
        simp -implicitDefEqProofs only [go_sem, Nat.reduceEqDiff, Nat.reduceAdd, Nat.reduceLT, Nat.reduceLeDiff, Nat.reduceMul, Nat.reduceBEq, reduceIte, gi9, i9, c10, Try.results25]
      · cases h
        subst hQ
        simp -implicitDefEqProofs only [go_sem, Nat.reduceEqDiff, Nat.reduceAdd, Nat.reduceLT, Nat.reduceLeDiff, Nat.reduceMul, Nat.reduceBEq, reduceIte, gi9, i9, c10, Try.results25]
    · try dsimp only at h hr3
      obtain ⟨rfl, hr3⟩ := hr3
      cases h
      try simp -implicitDefEqProofs only [go_sem, Nat.reduceEqDiff, Nat.reduceAdd, Nat.reduceLT, Nat.reduceLeDiff, Nat.reduceMul, Nat.reduceBEq, reduceIte]
      exact hr3 rfl
theorem m_ref02_Own_ev (a0 : TTerm) (r0 : TTerm) (h : m_ref02_Own a0 = some r0) (d : Nat) (G : Heap) : Tel Try.prog TB d 26 [.agg ((cTTerm a0).map .p)] G (.agg ((cTTerm r0).map .p)) (G) := by
  unfold m_ref02_Own at h
  refine Tel.intro mix Try.func26 rfl (Nat.le_of_ble_eq_true rfl) {frzAt := fun t => t == 1 || t == 6 || t == 8, pureAt := fun t => t == 31, boxAt := fun t => if t = 2 then some 2 else none} (by kernel_rfl) (by kernel_rfl) ?_
  generalize hQ : callPost _ _ _ _ _ = Q
  obtain ⟨r1, hr1, h⟩ := bs h
  simp -implicitDefEqProofs only [go_sem, Nat.reduceEqDiff, Nat.reduceAdd, Nat.reduceLT, Nat.reduceLeDiff, Nat.reduceMul, Nat.reduceBEq, reduceIte]
  refine call_frz (r' := .p (.bool r1)) (m_ref02_Right_ev a0 r1 hr1 (d + 1) empty) (by simp -implicitDefEqProofs only [go_sem, Nat.reduceEqDiff, Nat.reduceAdd, Nat.reduceLT, Nat.reduceLeDiff, Nat.reduceMul, Nat.reduceBEq, reduceIte]) rfl (by simp -implicitDefEqProofs only [go_sem, Nat.reduceEqDiff, Nat.reduceAdd, Nat.reduceLT, Nat.reduceLeDiff, Nat.reduceMul, Nat.reduceBEq, reduceIte]) (by simp -implicitDefEqProofs only [go_sem, Nat.reduceEqDiff, Nat.reduceAdd, Nat.reduceLT, Nat.reduceLeDiff, Nat.reduceMul, Nat.reduceBEq, reduceIte]) ?_ rfl rfl
  rcases ib h with ⟨c2, h⟩ | ⟨c2, h⟩
  · obtain ⟨r3, hr3, h⟩ := bs h
    simp -implicitDefEqProofs only [go_sem, Nat.reduceEqDiff, Nat.reduceAdd, Nat.reduceLT, Nat.reduceLeDiff, Nat.reduceMul, Nat.reduceBEq, reduceIte, c2]
    refine call_frz (r' := .agg [.p (.int .i64 r3.f0), .p (.int .i64 r3.f1)]) (args := []) (caps := []) (m_ref02_zero_ev  r3 hr3 (d + 1) empty) (wkRs_refl []) rfl (by simp -implicitDefEqProofs only [go_sem, Nat.reduceEqDiff, Nat.reduceAdd, Nat.reduceLT, Nat.reduceLeDiff, Nat.reduceMul, Nat.reduceBEq, reduceIte]) (by simp -implicitDefEqProofs only [go_sem, Nat.reduceEqDiff, Nat.reduceAdd, Nat.reduceLT, Nat.reduceLeDiff, Nat.reduceMul, Nat.reduceBEq, reduceIte]) ?_ rfl rfl
    cases h
    subst hQ
    simp -implicitDefEqProofs only [go_sem, Nat.reduceEqDiff, Nat.reduceAdd, Nat.reduceLT, Nat.reduceLeDiff, Nat.reduceMul, Nat.reduceBEq, reduceIte, c2, Try.results26]
  · simp -implicitDefEqProofs only [go_sem, Nat.reduceEqDiff, Nat.reduceAdd, Nat.reduceLT, Nat.reduceLeDiff, Nat.reduceMul, Nat.reduceBEq, reduceIte, c2]
    obtain ⟨z8, hL8, h⟩ := bs h
    obtain ⟨I8, hI8⟩ : ∃ I : (Int × Int) → St → Prop, I = fun a s => match a with | (v9, v10) => s.G = fillKey (cut d G) (d + 1) 2 [.box [.csl [], .p (.int .i64 0), .p (.int .i64 0)]] ∧ s.F 1 = .ep (cTTerm a0) 0 ∧ s.F 2 = .bp (d + 1, 2, 0) 0 ∧ s.F 3 = .p (.int .i64 v9) ∧ s.F 4 = .p (.int .i64 v10) ∧ True := ⟨_, rfl⟩
    obtain ⟨R8, hR8⟩ : ∃ R : (Int) → GE → St → Prop, R = fun v11 e s => e = .exit 0 ∧ s.G = fillKey (cut d G) (d + 1) 2 [.box [.csl [], .p (.int .i64 0), .p (.int .i64 0)]] ∧ s.F 1 = .ep (cTTerm a0) 0 ∧ s.F 2 = .bp (d + 1, 2, 0) 0 ∧ s.F 3 = .p (.int .i64 v11) ∧ True := ⟨_, rfl⟩
    refine lp (ts := []) rfl hL8 I8 R8 ?_ ?_ ?_
    · rw [hI8]
      simp -implicitDefEqProofs only [go_sem, Nat.reduceEqDiff, Nat.reduceAdd, Nat.reduceLT, Nat.reduceLeDiff, Nat.reduceMul, Nat.reduceBEq, reduceIte, c2]
    · clear h hL8
      rintro ⟨v9, v10⟩ y s h i
      rw [hI8] at i
      obtain ⟨gi8, i8⟩ := i
      replace h : m_ref02_Own_L0 a0 (v9, v10) = some y := h
      unfold m_ref02_Own_L0 at h
      rcases ib h with ⟨c12, h⟩ | ⟨c12, h⟩
      · obtain ⟨v13, hv13, h⟩ := bs h
        replace hv13 := gis hv13
        simp -implicitDefEqProofs only [go_sem, Nat.reduceEqDiff, Nat.reduceAdd, Nat.reduceLT, Nat.reduceLeDiff, Nat.reduceMul, Nat.reduceBEq, reduceIte, c2, gi8, i8, c12, hv13]
        obtain ⟨v14, hz, h⟩ := bs h
        obtain ⟨R15, hR15⟩ : ∃ R : St → Prop, R = fun s => s.G = fillKey (cut d G) (d + 1) 2 [.box [.csl [], .p (.int .i64 0), .p (.int .i64 0)]] ∧ s.F 1 = .ep (cTTerm a0) 0 ∧ s.F 2 = .bp (d + 1, 2, 0) 0 ∧ s.F 3 = .p (.int .i64 v14) ∧ s.F 4 = .p (.int .i64 v10) ∧ True := ⟨_, rfl⟩
        refine cutG R15 ?_ ?_
        · replace h := hz
          rcases ib h with ⟨c16, h⟩ | ⟨c16, h⟩
          · cases h
            simp -implicitDefEqProofs only [go_sem, Nat.reduceEqDiff, Nat.reduceAdd, Nat.reduceLT, Nat.reduceLeDiff, Nat.reduceMul, Nat.reduceBEq, reduceIte, c2, gi8, i8, c12, hv13, c16]
            rw [hR15]
            simp -implicitDefEqProofs only [go_sem, Nat.reduceEqDiff, Nat.reduceAdd, Nat.reduceLT, Nat.reduceLeDiff, Nat.reduceMul, Nat.reduceBEq, reduceIte, c2, gi8, i8, c12, hv13, c16]
          · cases h
            simp -implicitDefEqProofs only [go_sem, Nat.reduceEqDiff, Nat.reduceAdd, Nat.reduceLT, Nat.reduceLeDiff, Nat.reduceMul, Nat.reduceBEq, reduceIte, c2, gi8, i8, c12, hv13, c16]
            rw [hR15]
            simp -implicitDefEqProofs only [go_sem, Nat.reduceEqDiff, Nat.reduceAdd, Nat.reduceLT, Nat.reduceLeDiff, Nat.reduceMul, Nat.reduceBEq, reduceIte, c2, gi8, i8, c12, hv13, c16]
        · replace h := h; clear hz
          rintro s i
          rw [hR15] at i
          obtain ⟨gi17, i17⟩ := i
          clear hR15
          try dsimp only at h
          cases h
          simp -implicitDefEqProofs only [go_sem, Nat.reduceEqDiff, Nat.reduceAdd, Nat.reduceLT, Nat.reduceLeDiff, Nat.reduceMul, Nat.reduceBEq, reduceIte, c2, gi8, i8, c12, hv13, gi17, i17]
          rw [hI8]
          simp -implicitDefEqProofs only [go_sem, Nat.reduceEqDiff, Nat.reduceAdd, Nat.reduceLT, Nat.reduceLeDiff, Nat.reduceMul, Nat.reduceBEq, reduceIte, c2, gi8, i8, c12, hv13, gi17, i17]
      · cases h
        simp -implicitDefEqProofs only [go_sem, Nat.reduceEqDiff, Nat.reduceAdd, Nat.reduceLT, Nat.reduceLeDiff, Nat.reduceMul, Nat.reduceBEq, reduceIte, c2, gi8, i8, c12]
        rw [hR8]
        first | refine ⟨rfl, ?_⟩ | refine ⟨(), rfl, ?_⟩
        simp -implicitDefEqProofs only [go_sem, Nat.reduceEqDiff, Nat.reduceAdd, Nat.reduceLT, Nat.reduceLeDiff, Nat.reduceMul, Nat.reduceBEq, reduceIte, c2, gi8, i8, c12]
    · clear hL8 hI8
      intro e s hr8
      rw [hR8] at hr8
      clear hR8
      revert h hr8
      generalize z8 = v11
      intro h hr8
      try dsimp only at h hr8
      obtain ⟨rfl, gi18, i18⟩ := hr8
      obtain ⟨v19, hv19, h⟩ := bs h
      replace hv19 := subLs hv19
      obtain ⟨_, c20, h⟩ := bs h
      replace c20 := rqs c20
      simp -implicitDefEqProofs only [go_sem, Nat.reduceEqDiff, Nat.reduceAdd, Nat.reduceLT, Nat.reduceLeDiff, Nat.reduceMul, Nat.reduceBEq, reduceIte, c2, gi18, i18, hv19, c20]
      refine append_pure (es := (([] : List TRat) : List TRat).map cTRat) (xs := (v19 : List TRat).map cTRat) (he := el30) (hx := by simp -implicitDefEqProofs only [go_sem, Nat.reduceEqDiff, Nat.reduceAdd, Nat.reduceLT, Nat.reduceLeDiff, Nat.reduceMul, Nat.reduceBEq, reduceIte, c2, gi18, i18, hv19, c20]) (ha := rfl) (h1 := by simp -implicitDefEqProofs only [go_sem, Nat.reduceEqDiff, Nat.reduceAdd, Nat.reduceLT, Nat.reduceLeDiff, Nat.reduceMul, Nat.reduceBEq, reduceIte]) (h2 := by simp -implicitDefEqProofs only [go_sem, Nat.reduceEqDiff, Nat.reduceAdd, Nat.reduceLT, Nat.reduceLeDiff, Nat.reduceMul, Nat.reduceBEq, reduceIte]) (hb := by simp only [List.length_map]; omega) ?_
      cases h
      subst hQ
      simp -implicitDefEqProofs only [go_sem, Nat.reduceEqDiff, Nat.reduceAdd, Nat.reduceLT, Nat.reduceLeDiff, Nat.reduceMul, Nat.reduceBEq, reduceIte, c2, gi18, i18, hv19, c20, Try.results26]
theorem m_ref02_Do_ev (a0 : Int) (a1 : TTerm) (a2 : TTerm) (r0 : TTerm × Int) (h : m_ref02_Do a0 a1 a2 = some r0) (d : Nat) (G : Heap) : Tel Try.prog TB d 65 [.p (.int .i64 a0), .agg ((cTTerm a1).map .p), .agg ((cTTerm a2).map .p)] G (.tup [.agg ((cTTerm r0.1).map .p), .p (.int .i64 r0.2)]) (G) := by
  unfold m_ref02_Do at h
  refine Tel.intro mix Try.func65 rfl (Nat.le_of_ble_eq_true rfl) {frzAt := fun t => t == 4 || t == 5 || t == 16 || t == 20 || t == 30 || t == 55 || t == 64 || t == 66 || t == 80, boxAt := fun t => if t = 12 then some 12 else if t = 13 then some 13 else none, clean := fun r => if r = 8 then [12, 13] else []} (by kernel_rfl) (by kernel_rfl) ?_
  generalize hQ : callPost _ _ _ _ _ = Q
  obtain ⟨r1, hr1, h⟩ := bs h
  simp -implicitDefEqProofs only [go_sem, Nat.reduceEqDiff, Nat.reduceAdd, Nat.reduceLT, Nat.reduceLeDiff, Nat.reduceMul, Nat.reduceBEq, reduceIte]
  refine call_frz (r' := .p (.bool r1)) (m_ref02_Right_ev a1 r1 hr1 (d + 1) empty) (by simp -implicitDefEqProofs only [go_sem, Nat.reduceEqDiff, Nat.reduceAdd, Nat.reduceLT, Nat.reduceLeDiff, Nat.reduceMul, Nat.reduceBEq, reduceIte]) rfl (by simp -implicitDefEqProofs only [go_sem, Nat.reduceEqDiff, Nat.reduceAdd, Nat.reduceLT, Nat.reduceLeDiff, Nat.reduceMul, Nat.reduceBEq, reduceIte]) (by simp -implicitDefEqProofs only [go_sem, Nat.reduceEqDiff, Nat.reduceAdd, Nat.reduceLT, Nat.reduceLeDiff, Nat.reduceMul, Nat.reduceBEq, reduceIte]) ?_ rfl rfl
  simp -implicitDefEqProofs only [go_sem, Nat.reduceEqDiff, Nat.reduceAdd, Nat.reduceLT, Nat.reduceLeDiff, Nat.reduceMul, Nat.reduceBEq, reduceIte]
  obtain ⟨v2, hz, h⟩ := bs h
  obtain ⟨R3, hR3⟩ : ∃ R : St → Prop, R = fun s => s.G = fillKey (cut d G) (d + 1) 6 [.box [.csl [], .p (.int .i64 0), .p (.int .i64 0)]] ∧ s.F 0 = .p (.int .i64 a0) ∧ s.F 4 = .ep (cTTerm a1) 0 ∧ s.F 5 = .ep (cTTerm a2) 0 ∧ s.F 6 = .bp (d + 1, 6, 0) 0 ∧ s.F 22 = .p (.bool v2) ∧ True := ⟨_, rfl⟩
  refine cutR R3 ?_ ?_
  · replace h := hz
    rcases ib h with ⟨c4, h⟩ | ⟨c4, h⟩
    · cases h
      simp -implicitDefEqProofs only [go_sem, Nat.reduceEqDiff, Nat.reduceAdd, Nat.reduceLT, Nat.reduceLeDiff, Nat.reduceMul, Nat.reduceBEq, reduceIte, c4]
      rw [hR3]
      simp -implicitDefEqProofs only [go_sem, Nat.reduceEqDiff, Nat.reduceAdd, Nat.reduceLT, Nat.reduceLeDiff, Nat.reduceMul, Nat.reduceBEq, reduceIte, c4]
    · obtain ⟨r5, hr5, h⟩ := bs h
      simp -implicitDefEqProofs only [go_sem, Nat.reduceEqDiff, Nat.reduceAdd, Nat.reduceLT, Nat.reduceLeDiff, Nat.reduceMul, Nat.reduceBEq, reduceIte, c4]
      refine call_frz (r' := .p (.bool r5)) (m_ref02_Right_ev a2 r5 hr5 (d + 1) empty) (by simp -implicitDefEqProofs only [go_sem, Nat.reduceEqDiff, Nat.reduceAdd, Nat.reduceLT, Nat.reduceLeDiff, Nat.reduceMul, Nat.reduceBEq, reduceIte, c4]) rfl (by simp -implicitDefEqProofs only [go_sem, Nat.reduceEqDiff, Nat.reduceAdd, Nat.reduceLT, Nat.reduceLeDiff, Nat.reduceMul, Nat.reduceBEq, reduceIte]) (by simp -implicitDefEqProofs only [go_sem, Nat.reduceEqDiff, Nat.reduceAdd, Nat.reduceLT, Nat.reduceLeDiff, Nat.reduceMul, Nat.reduceBEq, reduceIte]) ?_ rfl rfl
      cases h
      simp -implicitDefEqProofs only [go_sem, Nat.reduceEqDiff, Nat.reduceAdd, Nat.reduceLT, Nat.reduceLeDiff, Nat.reduceMul, Nat.reduceBEq, reduceIte, c4]
      rw [hR3]
      simp -implicitDefEqProofs only [go_sem, Nat.reduceEqDiff, Nat.reduceAdd, Nat.reduceLT, Nat.reduceLeDiff, Nat.reduceMul, Nat.reduceBEq, reduceIte, c4]
  · replace h := h; clear hz
    rintro s i
    rw [hR3] at i
    obtain ⟨gi6, i6⟩ := i
    clear hR3
    try dsimp only at h
    rcases ib h with ⟨c7, h⟩ | ⟨c7, h⟩
    · cases h
      subst hQ
      simp -implicitDefEqProofs only [go_sem, Nat.reduceEqDiff, Nat.reduceAdd, Nat.reduceLT, Nat.reduceLeDiff, Nat.reduceMul, Nat.reduceBEq, reduceIte, gi6, i6, c7, Try.results65]
    · obtain ⟨r8, hr8, h⟩ := bs h
      simp -implicitDefEqProofs only [go_sem, Nat.reduceEqDiff, Nat.reduceAdd, Nat.reduceLT, Nat.reduceLeDiff, Nat.reduceMul, Nat.reduceBEq, reduceIte, gi6, i6, c7]
      refine call_frz (r' := .tup [.agg [.p (.int .i64 r8.1.f0), .p (.int .i64 r8.1.f1)], .p (.int .i64 r8.2)]) (m_ref01_Do_ev a0 a1.f1 a2.f1 r8 hr8 (d + 1) empty) (by simp -implicitDefEqProofs only [go_sem, Nat.reduceEqDiff, Nat.reduceAdd, Nat.reduceLT, Nat.reduceLeDiff, Nat.reduceMul, Nat.reduceBEq, reduceIte, gi6, i6, c7]) rfl (by simp -implicitDefEqProofs only [go_sem, Nat.reduceEqDiff, Nat.reduceAdd, Nat.reduceLT, Nat.reduceLeDiff, Nat.reduceMul, Nat.reduceBEq, reduceIte]) (by simp -implicitDefEqProofs only [go_sem, Nat.reduceEqDiff, Nat.reduceAdd, Nat.reduceLT, Nat.reduceLeDiff, Nat.reduceMul, Nat.reduceBEq, reduceIte]) ?_ rfl rfl
      rcases ib h with ⟨c9, h⟩ | ⟨c9, h⟩
      · cases h
        subst hQ
        simp -implicitDefEqProofs only [go_sem, Nat.reduceEqDiff, Nat.reduceAdd, Nat.reduceLT, Nat.reduceLeDiff, Nat.reduceMul, Nat.reduceBEq, reduceIte, gi6, i6, c7, c9, Try.results65]
      · simp -implicitDefEqProofs only [go_sem, Nat.reduceEqDiff, Nat.reduceAdd, Nat.reduceLT, Nat.reduceLeDiff, Nat.reduceMul, Nat.reduceBEq, reduceIte, gi6, i6, c7, c9]
        obtain ⟨z16, hL16, h⟩ := bs h
        obtain ⟨I16, hI16⟩ : ∃ I : (Int × (List TRat)) → St → Prop, I = fun a s => match a with | (v17, v18) => ∃ o19, s.G = fillKey (fillKey (fillKey (fillKey (cut d G) (d + 1) 6 [.box [.csl [], .p (.int .i64 0), .p (.int .i64 0)]]) (d + 1) 8 [.box [.p (.int .i64 r8.1.f0), .p (.int .i64 r8.1.f1)]]) (d + 1) 10 [.box [growV o19 (d + 1) (v18.map cTRat), .p (.int .i64 r8.1.f0), .p (.int .i64 r8.1.f1)]]) (d + 1) 77 (growO o19 77 2 (v18.map cTRat)) ∧ growOK o19 [77] ∧ s.F 0 = .p (.int .i64 a0) ∧ s.F 4 = .ep (cTTerm a1) 0 ∧ s.F 5 = .ep (cTTerm a2) 0 ∧ s.F 6 = .bp (d + 1, 6, 0) 0 ∧ s.F 10 = .bp (d + 1, 10, 0) 0 ∧ s.F 11 = .p (.int .i64 v17) ∧ True := ⟨_, rfl⟩
        obtain ⟨R16, hR16⟩ : ∃ R : (((List TRat)) ⊕ (TTerm × Int)) → GE → St → Prop, R = fun x e s => match x with | .inl v20 => e = .exit 0 ∧ (∃ o21, s.G = fillKey (fillKey (fillKey (fillKey (cut d G) (d + 1) 6 [.box [.csl [], .p (.int .i64 0), .p (.int .i64 0)]]) (d + 1) 8 [.box [.p (.int .i64 r8.1.f0), .p (.int .i64 r8.1.f1)]]) (d + 1) 10 [.box [growV o21 (d + 1) (v20.map cTRat), .p (.int .i64 r8.1.f0), .p (.int .i64 r8.1.f1)]]) (d + 1) 77 (growO o21 77 2 (v20.map cTRat)) ∧ growOK o21 [77] ∧ s.F 6 = .bp (d + 1, 6, 0) 0 ∧ s.F 10 = .bp (d + 1, 10, 0) 0 ∧ True) | .inr r => e = .ret ∧ (r = r0 → Q .ret s) := ⟨_, rfl⟩
        refine lp (ts := [12, 13]) rfl hL16 I16 R16 ?_ ?_ ?_
        · rw [hI16]
          refine ⟨none, ?_⟩
          simp -implicitDefEqProofs only [go_sem, Nat.reduceEqDiff, Nat.reduceAdd, Nat.reduceLT, Nat.reduceLeDiff, Nat.reduceMul, Nat.reduceBEq, reduceIte, gi6, i6, c7, c9]
        · clear h hL16
          rintro ⟨v17, v18⟩ y s h i
          rw [hI16] at i
          obtain ⟨o19, gi16, ko19, i16⟩ := i
          replace h : m_ref02_Do_L0 a1 a2 a0 (v17, v18) = some y := h
          unfold m_ref02_Do_L0 at h
          simp -implicitDefEqProofs only [go_sem, Nat.reduceEqDiff, Nat.reduceAdd, Nat.reduceLT, Nat.reduceLeDiff, Nat.reduceMul, Nat.reduceBEq, reduceIte, gi6, i6, c7, c9, gi16, ko19, i16]
          obtain ⟨v22, hz, h⟩ := bs h
          obtain ⟨R23, hR23⟩ : ∃ R : St → Prop, R = fun s => s.G = fillKey (fillKey (fillKey (fillKey (cut d G) (d + 1) 6 [.box [.csl [], .p (.int .i64 0), .p (.int .i64 0)]]) (d + 1) 8 [.box [.p (.int .i64 r8.1.f0), .p (.int .i64 r8.1.f1)]]) (d + 1) 10 [.box [growV o19 (d + 1) (v18.map cTRat), .p (.int .i64 r8.1.f0), .p (.int .i64 r8.1.f1)]]) (d + 1) 77 (growO o19 77 2 (v18.map cTRat)) ∧ s.F 0 = .p (.int .i64 a0) ∧ s.F 4 = .ep (cTTerm a1) 0 ∧ s.F 5 = .ep (cTTerm a2) 0 ∧ s.F 6 = .bp (d + 1, 6, 0) 0 ∧ s.F 10 = .bp (d + 1, 10, 0) 0 ∧ s.F 11 = .p (.int .i64 v17) ∧ s.F 50 = .p (.bool v22) ∧ True := ⟨_, rfl⟩
          refine cutR R23 ?_ ?_
          · replace h := hz
            rcases ib h with ⟨c24, h⟩ | ⟨c24, h⟩
            · cases h
              simp -implicitDefEqProofs only [go_sem, Nat.reduceEqDiff, Nat.reduceAdd, Nat.reduceLT, Nat.reduceLeDiff, Nat.reduceMul, Nat.reduceBEq, reduceIte, gi6, i6, c7, c9, gi16, ko19, i16, c24]
              rw [hR23]
              simp -implicitDefEqProofs only [go_sem, Nat.reduceEqDiff, Nat.reduceAdd, Nat.reduceLT, Nat.reduceLeDiff, Nat.reduceMul, Nat.reduceBEq, reduceIte, gi6, i6, c7, c9, gi16, ko19, i16, c24]
            · cases h
              simp -implicitDefEqProofs only [go_sem, Nat.reduceEqDiff, Nat.reduceAdd, Nat.reduceLT, Nat.reduceLeDiff, Nat.reduceMul, Nat.reduceBEq, reduceIte, gi6, i6, c7, c9, gi16, ko19, i16, c24]
              rw [hR23]
              simp -implicitDefEqProofs only [go_sem, Nat.reduceEqDiff, Nat.reduceAdd, Nat.reduceLT, Nat.reduceLeDiff, Nat.reduceMul, Nat.reduceBEq, reduceIte, gi6, i6, c7, c9, gi16, ko19, i16, c24]
          · replace h := h; clear hz
            rintro s i
            rw [hR23] at i
            obtain ⟨gi25, i25⟩ := i
            clear hR23
            try dsimp only at h
            rcases ib h with ⟨c26, h⟩ | ⟨c26, h⟩
            · obtain ⟨r27, hr27, h⟩ := bs h
              simp -implicitDefEqProofs only [go_sem, Nat.reduceEqDiff, Nat.reduceAdd, Nat.reduceLT, Nat.reduceLeDiff, Nat.reduceMul, Nat.reduceBEq, reduceIte, gi6, i6, c7, c9, gi16, ko19, i16, gi25, i25, c26]
              refine call_frz (r' := .agg [.p (.int .i64 r27.f0), .p (.int .i64 r27.f1)]) (m_ref02_At_ev a2 v17 r27 hr27 (d + 1) empty) (by simp -implicitDefEqProofs only [go_sem, Nat.reduceEqDiff, Nat.reduceAdd, Nat.reduceLT, Nat.reduceLeDiff, Nat.reduceMul, Nat.reduceBEq, reduceIte, gi6, i6, c7, c9, gi16, ko19, i16, gi25, i25, c26]) rfl (by simp -implicitDefEqProofs only [go_sem, Nat.reduceEqDiff, Nat.reduceAdd, Nat.reduceLT, Nat.reduceLeDiff, Nat.reduceMul, Nat.reduceBEq, reduceIte]) (by simp -implicitDefEqProofs only [go_sem, Nat.reduceEqDiff, Nat.reduceAdd, Nat.reduceLT, Nat.reduceLeDiff, Nat.reduceMul, Nat.reduceBEq, reduceIte]) ?_ rfl rfl
              simp -implicitDefEqProofs only [go_sem, Nat.reduceEqDiff, Nat.reduceAdd, Nat.reduceLT, Nat.reduceLeDiff, Nat.reduceMul, Nat.reduceBEq, reduceIte, gi6, i6, c7, c9, gi16, ko19, i16, gi25, i25, c26]
              obtain ⟨⟨v28, v29⟩, hz, h⟩ := bs h
              obtain ⟨R30, hR30⟩ : ∃ R : St → Prop, R = fun s => s.G = fillKey (fillKey (fillKey (fillKey (fillKey (cut d G) (d + 1) 6 [.box [.csl [], .p (.int .i64 0), .p (.int .i64 0)]]) (d + 1) 8 [.box [.p (.int .i64 r8.1.f0), .p (.int .i64 r8.1.f1)]]) (d + 1) 10 [.box [growV o19 (d + 1) (v18.map cTRat), .p (.int .i64 r8.1.f0), .p (.int .i64 r8.1.f1)]]) (d + 1) 12 [.box [.p (.int .i64 v28), .p (.int .i64 v29)]]) (d + 1) 77 (growO o19 77 2 (v18.map cTRat)) ∧ s.F 0 = .p (.int .i64 a0) ∧ s.F 4 = .ep (cTTerm a1) 0 ∧ s.F 5 = .ep (cTTerm a2) 0 ∧ s.F 6 = .bp (d + 1, 6, 0) 0 ∧ s.F 10 = .bp (d + 1, 10, 0) 0 ∧ s.F 11 = .p (.int .i64 v17) ∧ s.F 12 = .bp (d + 1, 12, 0) 0 ∧ True := ⟨_, rfl⟩
              refine cutG R30 ?_ ?_
              · replace h := hz
                rcases ib h with ⟨c31, h⟩ | ⟨c31, h⟩
                · cases h
                  simp -implicitDefEqProofs only [go_sem, Nat.reduceEqDiff, Nat.reduceAdd, Nat.reduceLT, Nat.reduceLeDiff, Nat.reduceMul, Nat.reduceBEq, reduceIte, gi6, i6, c7, c9, gi16, ko19, i16, gi25, i25, c26, c31]
                  rw [hR30]
                  simp -implicitDefEqProofs only [go_sem, Nat.reduceEqDiff, Nat.reduceAdd, Nat.reduceLT, Nat.reduceLeDiff, Nat.reduceMul, Nat.reduceBEq, reduceIte, gi6, i6, c7, c9, gi16, ko19, i16, gi25, i25, c26, c31]
                · cases h
                  simp -implicitDefEqProofs only [go_sem, Nat.reduceEqDiff, Nat.reduceAdd, Nat.reduceLT, Nat.reduceLeDiff, Nat.reduceMul, Nat.reduceBEq, reduceIte, gi6, i6, c7, c9, gi16, ko19, i16, gi25, i25, c26, c31]
                  rw [hR30]
                  simp -implicitDefEqProofs only [go_sem, Nat.reduceEqDiff, Nat.reduceAdd, Nat.reduceLT, Nat.reduceLeDiff, Nat.reduceMul, Nat.reduceBEq, reduceIte, gi6, i6, c7, c9, gi16, ko19, i16, gi25, i25, c26, c31]
              · replace h := h; clear hz
                rintro s i
                rw [hR30] at i
                obtain ⟨gi32, i32⟩ := i
                clear hR30
                try dsimp only at h
                obtain ⟨r33, hr33, h⟩ := bs h
                simp -implicitDefEqProofs only [go_sem, Nat.reduceEqDiff, Nat.reduceAdd, Nat.reduceLT, Nat.reduceLeDiff, Nat.reduceMul, Nat.reduceBEq, reduceIte, gi6, i6, c7, c9, gi16, ko19, i16, gi25, i25, c26, gi32, i32]
                refine call_frz (r' := .agg [.p (.int .i64 r33.f0), .p (.int .i64 r33.f1)]) (m_ref02_At_ev a1 v17 r33 hr33 (d + 1) empty) (by simp -implicitDefEqProofs only [go_sem, Nat.reduceEqDiff, Nat.reduceAdd, Nat.reduceLT, Nat.reduceLeDiff, Nat.reduceMul, Nat.reduceBEq, reduceIte, gi6, i6, c7, c9, gi16, ko19, i16, gi25, i25, c26, gi32, i32]) rfl (by simp -implicitDefEqProofs only [go_sem, Nat.reduceEqDiff, Nat.reduceAdd, Nat.reduceLT, Nat.reduceLeDiff, Nat.reduceMul, Nat.reduceBEq, reduceIte]) (by simp -implicitDefEqProofs only [go_sem, Nat.reduceEqDiff, Nat.reduceAdd, Nat.reduceLT, Nat.reduceLeDiff, Nat.reduceMul, Nat.reduceBEq, reduceIte]) ?_ rfl rfl
                obtain ⟨r34, hr34, h⟩ := bs h
                simp -implicitDefEqProofs only [go_sem, Nat.reduceEqDiff, Nat.reduceAdd, Nat.reduceLT, Nat.reduceLeDiff, Nat.reduceMul, Nat.reduceBEq, reduceIte, gi6, i6, c7, c9, gi16, ko19, i16, gi25, i25, c26, gi32, i32]
                refine call_frz (r' := .tup [.agg [.p (.int .i64 r34.1.f0), .p (.int .i64 r34.1.f1)], .p (.int .i64 r34.2)]) (m_ref01_Do_ev a0 r33 (⟨v28, v29⟩ : TRat) r34 hr34 (d + 1) empty) (by simp -implicitDefEqProofs only [go_sem, Nat.reduceEqDiff, Nat.reduceAdd, Nat.reduceLT, Nat.reduceLeDiff, Nat.reduceMul, Nat.reduceBEq, reduceIte, gi6, i6, c7, c9, gi16, ko19, i16, gi25, i25, c26, gi32, i32]) rfl (by simp -implicitDefEqProofs only [go_sem, Nat.reduceEqDiff, Nat.reduceAdd, Nat.reduceLT, Nat.reduceLeDiff, Nat.reduceMul, Nat.reduceBEq, reduceIte]) (by simp -implicitDefEqProofs only [go_sem, Nat.reduceEqDiff, Nat.reduceAdd, Nat.reduceLT, Nat.reduceLeDiff, Nat.reduceMul, Nat.reduceBEq, reduceIte]) ?_ rfl rfl
                rcases ib h with ⟨c35, h⟩ | ⟨c35, h⟩
                · cases h
                  simp -implicitDefEqProofs only [go_sem, Nat.reduceEqDiff, Nat.reduceAdd, Nat.reduceLT, Nat.reduceLeDiff, Nat.reduceMul, Nat.reduceBEq, reduceIte, gi6, i6, c7, c9, gi16, ko19, i16, gi25, i25, c26, gi32, i32, c35]
                  rw [hR16]
                  refine ⟨rfl, ?_⟩
                  intro hr
                  subst hr
                  subst hQ
                  simp -implicitDefEqProofs only [go_sem, Nat.reduceEqDiff, Nat.reduceAdd, Nat.reduceLT, Nat.reduceLeDiff, Nat.reduceMul, Nat.reduceBEq, reduceIte, gi6, i6, c7, c9, gi16, ko19, i16, gi25, i25, c26, gi32, i32, c35, Try.results65]
                · obtain ⟨_, c36, h⟩ := bs h
                  replace c36 := rqs c36
                  simp -implicitDefEqProofs only [go_sem, Nat.reduceEqDiff, Nat.reduceAdd, Nat.reduceLT, Nat.reduceLeDiff, Nat.reduceMul, Nat.reduceBEq, reduceIte, gi6, i6, c7, c9, gi16, ko19, i16, gi25, i25, c26, gi32, i32, c35, c36]
                  refine append_G (o := o19) (ts := [77]) (es := (v18 : List TRat).map cTRat) (xs := ([r34.1] : List TRat).map cTRat) (ho := growOK.sub ko19 (by decide)) (hG := by simp -implicitDefEqProofs only [go_sem, Nat.reduceEqDiff, Nat.reduceAdd, Nat.reduceLT, Nat.reduceLeDiff, Nat.reduceMul, Nat.reduceBEq, reduceIte, gi6, i6, c7, c9, gi16, ko19, i16, gi25, i25, c26, gi32, i32, c35, c36]) (hj := by simp -implicitDefEqProofs only [go_sem, Nat.reduceEqDiff, Nat.reduceAdd, Nat.reduceLT, Nat.reduceLeDiff, Nat.reduceMul, Nat.reduceBEq, reduceIte]) (he := el30) (hx := by simp -implicitDefEqProofs only [go_sem, Nat.reduceEqDiff, Nat.reduceAdd, Nat.reduceLT, Nat.reduceLeDiff, Nat.reduceMul, Nat.reduceBEq, reduceIte, gi6, i6, c7, c9, gi16, ko19, i16, gi25, i25, c26, gi32, i32, c35, c36]) (h1 := by simp -implicitDefEqProofs only [go_sem, Nat.reduceEqDiff, Nat.reduceAdd, Nat.reduceLT, Nat.reduceLeDiff, Nat.reduceMul, Nat.reduceBEq, reduceIte]) (h2 := by simp -implicitDefEqProofs only [go_sem, Nat.reduceEqDiff, Nat.reduceAdd, Nat.reduceLT, Nat.reduceLeDiff, Nat.reduceMul, Nat.reduceBEq, reduceIte]) (ha := rfl) (hra := rfl) (hb := by simpa using c36) (hbb := by decide) ?_
                  intro o37 ko37
                  cases h
                  simp -implicitDefEqProofs only [go_sem, Nat.reduceEqDiff, Nat.reduceAdd, Nat.reduceLT, Nat.reduceLeDiff, Nat.reduceMul, Nat.reduceBEq, reduceIte, gi6, i6, c7, c9, gi16, ko19, i16, gi25, i25, c26, gi32, i32, c35, c36, ko37]
                  rw [hI16]
                  refine ⟨o37, ?_⟩
                  simp -implicitDefEqProofs only [go_sem, Nat.reduceEqDiff, Nat.reduceAdd, Nat.reduceLT, Nat.reduceLeDiff, Nat.reduceMul, Nat.reduceBEq, reduceIte, gi6, i6, c7, c9, gi16, ko19, i16, gi25, i25, c26, gi32, i32, c35, c36, ko37, poison_grow (d := d + 1) (ts := [12, 13]) ko19 (by decide), poison_grow (d := d + 1) (ts := [12, 13]) ko37 (by decide)]
            · cases h
              simp -implicitDefEqProofs only [go_sem, Nat.reduceEqDiff, Nat.reduceAdd, Nat.reduceLT, Nat.reduceLeDiff, Nat.reduceMul, Nat.reduceBEq, reduceIte, gi6, i6, c7, c9, gi16, ko19, i16, gi25, i25, c26]
              rw [hR16]
              first | refine ⟨rfl, o19, ?_⟩ | refine ⟨(), rfl, o19, ?_⟩
              simp -implicitDefEqProofs only [go_sem, Nat.reduceEqDiff, Nat.reduceAdd, Nat.reduceLT, Nat.reduceLeDiff, Nat.reduceMul, Nat.reduceBEq, reduceIte, gi6, i6, c7, c9, gi16, ko19, i16, gi25, i25, c26]
        · clear hL16 hI16
          intro e s hr16
          rw [hR16] at hr16
          clear hR16
          rcases z16 with v20 | r
          · try dsimp only at h hr16
            obtain ⟨rfl, o21, gi38, ko21, i38⟩ := hr16
            obtain ⟨r39, hr39, h⟩ := bs h
            simp -implicitDefEqProofs only [go_sem, Nat.reduceEqDiff, Nat.reduceAdd, Nat.reduceLT, Nat.reduceLeDiff, Nat.reduceMul, Nat.reduceBEq, reduceIte, gi6, i6, c7, c9, gi38, ko21, i38]
            refine call_frz (r' := .agg [.p (.sl (r39.f0.map cTRat)), .p (.int .i64 r39.f1.f0), .p (.int .i64 r39.f1.f1)]) (m_ref02_Own_ev (⟨v20, r8.1⟩ : TTerm) r39 hr39 (d + 1) empty) (by simp -implicitDefEqProofs only [go_sem, Nat.reduceEqDiff, Nat.reduceAdd, Nat.reduceLT, Nat.reduceLeDiff, Nat.reduceMul, Nat.reduceBEq, reduceIte, gi6, i6, c7, c9, gi38, ko21, i38]) rfl (by simp -implicitDefEqProofs only [go_sem, Nat.reduceEqDiff, Nat.reduceAdd, Nat.reduceLT, Nat.reduceLeDiff, Nat.reduceMul, Nat.reduceBEq, reduceIte]) (by simp -implicitDefEqProofs only [go_sem, Nat.reduceEqDiff, Nat.reduceAdd, Nat.reduceLT, Nat.reduceLeDiff, Nat.reduceMul, Nat.reduceBEq, reduceIte]) ?_ rfl rfl
            cases h
            subst hQ
            simp -implicitDefEqProofs only [go_sem, Nat.reduceEqDiff, Nat.reduceAdd, Nat.reduceLT, Nat.reduceLeDiff, Nat.reduceMul, Nat.reduceBEq, reduceIte, gi6, i6, c7, c9, gi38, ko21, i38, Try.results65]
          · try dsimp only at h hr16
            obtain ⟨rfl, hr16⟩ := hr16
            cases h
            try simp -implicitDefEqProofs only [go_sem, Nat.reduceEqDiff, Nat.reduceAdd, Nat.reduceLT, Nat.reduceLeDiff, Nat.reduceMul, Nat.reduceBEq, reduceIte]
            exact hr16 rfl
theorem m_ref02_Equal_ev (a0 : TTerm) (a1 : TTerm) (r0 : Bool) (h : m_ref02_Equal a0 a1 = some r0) (d : Nat) (G : Heap) : Tel Try.prog TB d 29 [.agg ((cTTerm a0).map .p), .agg ((cTTerm a1).map .p)] G (.p (.bool r0)) (G) := by
  unfold m_ref02_Equal at h
  refine Tel.intro mix Try.func29 rfl (Nat.le_of_ble_eq_true rfl) {frzAt := fun t => t == 2 || t == 3} (by kernel_rfl) (by kernel_rfl) ?_
  generalize hQ : callPost _ _ _ _ _ = Q
  simp -implicitDefEqProofs only [go_sem, Nat.reduceEqDiff, Nat.reduceAdd, Nat.reduceLT, Nat.reduceLeDiff, Nat.reduceMul, Nat.reduceBEq, reduceIte]
  refine eqS_TRat a0.f1 a1.f1 ?_
  simp -implicitDefEqProofs only [go_sem, Nat.reduceEqDiff, Nat.reduceAdd, Nat.reduceLT, Nat.reduceLeDiff, Nat.reduceMul, Nat.reduceBEq, reduceIte]
  obtain ⟨v1, hz, h⟩ := bs h
  obtain ⟨R2, hR2⟩ : ∃ R : St → Prop, R = fun s => s.G = cut d G ∧ s.F 2 = .ep (cTTerm a0) 0 ∧ s.F 3 = .ep (cTTerm a1) 0 ∧ s.F 19 = .p (.bool v1) ∧ True := ⟨_, rfl⟩
  refine cutR R2 ?_ ?_
  · replace h := hz
    rcases ib h with ⟨c3, h⟩ | ⟨c3, h⟩
    · cases h
      simp -implicitDefEqProofs only [go_sem, Nat.reduceEqDiff, Nat.reduceAdd, Nat.reduceLT, Nat.reduceLeDiff, Nat.reduceMul, Nat.reduceBEq, reduceIte, c3]
      rw [hR2]
      simp -implicitDefEqProofs only [go_sem, Nat.reduceEqDiff, Nat.reduceAdd, Nat.reduceLT, Nat.reduceLeDiff, Nat.reduceMul, Nat.reduceBEq, reduceIte, c3]
    · cases h
      simp -implicitDefEqProofs only [go_sem, Nat.reduceEqDiff, Nat.reduceAdd, Nat.reduceLT, Nat.reduceLeDiff, Nat.reduceMul, Nat.reduceBEq, reduceIte, c3]
      rw [hR2]
      simp -implicitDefEqProofs only [go_sem, Nat.reduceEqDiff, Nat.reduceAdd, Nat.reduceLT, Nat.reduceLeDiff, Nat.reduceMul, Nat.reduceBEq, reduceIte, c3]
  · replace h := h; clear hz
    rintro s i
    rw [hR2] at i
    obtain ⟨gi4, i4⟩ := i
    clear hR2
    try dsimp only at h
    rcases ib h with ⟨c5, h⟩ | ⟨c5, h⟩
    · cases h
      subst hQ
      simp -implicitDefEqProofs only [go_sem, Nat.reduceEqDiff, Nat.reduceAdd, Nat.reduceLT, Nat.reduceLeDiff, Nat.reduceMul, Nat.reduceBEq, reduceIte, gi4, i4, c5, Try.results29]
    · simp -implicitDefEqProofs only [go_sem, Nat.reduceEqDiff, Nat.reduceAdd, Nat.reduceLT, Nat.reduceLeDiff, Nat.reduceMul, Nat.reduceBEq, reduceIte, gi4, i4, c5]
      obtain ⟨z8, hL8, h⟩ := bs h
      obtain ⟨I8, hI8⟩ : ∃ I : Int → St → Prop, I = fun v9 s => s.G = cut d G ∧ s.F 2 = .ep (cTTerm a0) 0 ∧ s.F 3 = .ep (cTTerm a1) 0 ∧ s.F 5 = .p (.int .i64 v9) ∧ True := ⟨_, rfl⟩
      obtain ⟨R8, hR8⟩ : ∃ R : ((Unit) ⊕ (Bool)) → GE → St → Prop, R = fun x e s => match x with | .inl _ => e = .exit 0 ∧ s.G = cut d G ∧ True | .inr r => e = .ret ∧ (r = r0 → Q .ret s) := ⟨_, rfl⟩
      refine lp (ts := []) rfl hL8 I8 R8 ?_ ?_ ?_
      · rw [hI8]
        simp -implicitDefEqProofs only [go_sem, Nat.reduceEqDiff, Nat.reduceAdd, Nat.reduceLT, Nat.reduceLeDiff, Nat.reduceMul, Nat.reduceBEq, reduceIte, gi4, i4, c5]
      · clear h hL8
        rintro v9 y s h i
        rw [hI8] at i
        obtain ⟨gi8, i8⟩ := i
        replace h : m_ref02_Equal_L0 a0 a1 (v9) = some y := h
        unfold m_ref02_Equal_L0 at h
        rcases ib h with ⟨c10, h⟩ | ⟨c10, h⟩
        · obtain ⟨v11, hv11, h⟩ := bs h
          replace hv11 := gis hv11
          obtain ⟨v12, hv12, h⟩ := bs h
          replace hv12 := gis hv12
          simp -implicitDefEqProofs only [go_sem, Nat.reduceEqDiff, Nat.reduceAdd, Nat.reduceLT, Nat.reduceLeDiff, Nat.reduceMul, Nat.reduceBEq, reduceIte, gi4, i4, c5, gi8, i8, c10, hv11, hv12]
          refine eqS_TRat v11 v12 ?_
          rcases ib h with ⟨c13, h⟩ | ⟨c13, h⟩
          · cases h
            simp -implicitDefEqProofs only [go_sem, Nat.reduceEqDiff, Nat.reduceAdd, Nat.reduceLT, Nat.reduceLeDiff, Nat.reduceMul, Nat.reduceBEq, reduceIte, gi4, i4, c5, gi8, i8, c10, hv11, hv12, c13]
            rw [hR8]
            refine ⟨rfl, ?_⟩
            intro hr
            subst hr
            subst hQ
            simp -implicitDefEqProofs only [go_sem, Nat.reduceEqDiff, Nat.reduceAdd, Nat.reduceLT, Nat.reduceLeDiff, Nat.reduceMul, Nat.reduceBEq, reduceIte, gi4, i4, c5, gi8, i8, c10, hv11, hv12, c13, Try.results29]
          · cases h
            simp -implicitDefEqProofs only [go_sem, Nat.reduceEqDiff, Nat.reduceAdd, Nat.reduceLT, Nat.reduceLeDiff, Nat.reduceMul, Nat.reduceBEq, reduceIte, gi4, i4, c5, gi8, i8, c10, hv11, hv12, c13]
            rw [hI8]
            simp -implicitDefEqProofs only [go_sem, Nat.reduceEqDiff, Nat.reduceAdd, Nat.reduceLT, Nat.reduceLeDiff, Nat.reduceMul, Nat.reduceBEq, reduceIte, gi4, i4, c5, gi8, i8, c10, hv11, hv12, c13]
        · cases h
          simp -implicitDefEqProofs only [go_sem, Nat.reduceEqDiff, Nat.reduceAdd, Nat.reduceLT, Nat.reduceLeDiff, Nat.reduceMul, Nat.reduceBEq, reduceIte, gi4, i4, c5, gi8, i8, c10]
          rw [hR8]
          first | refine ⟨rfl, ?_⟩ | refine ⟨(), rfl, ?_⟩
          simp -implicitDefEqProofs only [go_sem, Nat.reduceEqDiff, Nat.reduceAdd, Nat.reduceLT, Nat.reduceLeDiff, Nat.reduceMul, Nat.reduceBEq, reduceIte, gi4, i4, c5, gi8, i8, c10]
      · clear hL8 hI8
        intro e s hr8
        rw [hR8] at hr8
        clear hR8
        rcases z8 with _ | r
        · try dsimp only at h hr8
          obtain ⟨rfl, gi14, i14⟩ := hr8
          cases h
          subst hQ
          simp -implicitDefEqProofs only [go_sem, Nat.reduceEqDiff, Nat.reduceAdd, Nat.reduceLT, Nat.reduceLeDiff, Nat.reduceMul, Nat.reduceBEq, reduceIte, gi4, i4, c5, gi14, i14, Try.results29]
        · try dsimp only at h hr8
          obtain ⟨rfl, hr8⟩ := hr8
          cases h
          try simp -implicitDefEqProofs only [go_sem, Nat.reduceEqDiff, Nat.reduceAdd, Nat.reduceLT, Nat.reduceLeDiff, Nat.reduceMul, Nat.reduceBEq, reduceIte]
          exact hr8 rfl
theorem m_ref02_Value_ev (a0 : TTerm) (a1 : List TRat) (r0 : TRat × Int) (h : m_ref02_Value a0 a1 = some r0) (d : Nat) (G : Heap) : Tel Try.prog TB d 30 [.agg ((cTTerm a0).map .p), .p (.sl (a1.map cTRat))] G (.tup [.agg ((cTRat r0.1).map .p), .p (.int .i64 r0.2)]) (G) := by
  unfold m_ref02_Value at h
  refine Tel.intro mix Try.func30 rfl (Nat.le_of_ble_eq_true rfl) {frzAt := fun t => t == 2 || t == 12 || t == 29 || t == 57 || t == 67, boxAt := fun t => if t = 9 then some 9 else none, clean := fun r => if r = 10 then [9] else []} (by kernel_rfl) (by kernel_rfl) ?_
  generalize hQ : callPost _ _ _ _ _ = Q
  obtain ⟨r1, hr1, h⟩ := bs h
  simp -implicitDefEqProofs only [go_sem, Nat.reduceEqDiff, Nat.reduceAdd, Nat.reduceLT, Nat.reduceLeDiff, Nat.reduceMul, Nat.reduceBEq, reduceIte]
  refine call_frz (r' := .p (.bool r1)) (m_ref02_Right_ev a0 r1 hr1 (d + 1) empty) (by simp -implicitDefEqProofs only [go_sem, Nat.reduceEqDiff, Nat.reduceAdd, Nat.reduceLT, Nat.reduceLeDiff, Nat.reduceMul, Nat.reduceBEq, reduceIte]) rfl (by simp -implicitDefEqProofs only [go_sem, Nat.reduceEqDiff, Nat.reduceAdd, Nat.reduceLT, Nat.reduceLeDiff, Nat.reduceMul, Nat.reduceBEq, reduceIte]) (by simp -implicitDefEqProofs only [go_sem, Nat.reduceEqDiff, Nat.reduceAdd, Nat.reduceLT, Nat.reduceLeDiff, Nat.reduceMul, Nat.reduceBEq, reduceIte]) ?_ rfl rfl
  rcases ib h with ⟨c2, h⟩ | ⟨c2, h⟩
  · cases h
    subst hQ
    simp -implicitDefEqProofs only [go_sem, Nat.reduceEqDiff, Nat.reduceAdd, Nat.reduceLT, Nat.reduceLeDiff, Nat.reduceMul, Nat.reduceBEq, reduceIte, c2, Try.results30]
  · simp -implicitDefEqProofs only [go_sem, Nat.reduceEqDiff, Nat.reduceAdd, Nat.reduceLT, Nat.reduceLeDiff, Nat.reduceMul, Nat.reduceBEq, reduceIte, c2]
    obtain ⟨z5, hL5, h⟩ := bs h
    obtain ⟨I5, hI5⟩ : ∃ I : Int → St → Prop, I = fun v6 s => s.G = fillKey (cut d G) (d + 1) 4 [.box [.p (.int .i64 0), .p (.int .i64 0)]] ∧ s.F 1 = .p (.sl (a1.map cTRat)) ∧ s.F 2 = .ep (cTTerm a0) 0 ∧ s.F 4 = .bp (d + 1, 4, 0) 0 ∧ s.F 6 = .p (.int .i64 v6) ∧ True := ⟨_, rfl⟩
    obtain ⟨R5, hR5⟩ : ∃ R : ((Unit) ⊕ (TRat × Int)) → GE → St → Prop, R = fun x e s => match x with | .inl _ => e = .exit 0 ∧ s.G = fillKey (cut d G) (d + 1) 4 [.box [.p (.int .i64 0), .p (.int .i64 0)]] ∧ s.F 1 = .p (.sl (a1.map cTRat)) ∧ s.F 2 = .ep (cTTerm a0) 0 ∧ s.F 4 = .bp (d + 1, 4, 0) 0 ∧ True | .inr r => e = .ret ∧ (r = r0 → Q .ret s) := ⟨_, rfl⟩
    refine lp (ts := []) rfl hL5 I5 R5 ?_ ?_ ?_
    · rw [hI5]
      simp -implicitDefEqProofs only [go_sem, Nat.reduceEqDiff, Nat.reduceAdd, Nat.reduceLT, Nat.reduceLeDiff, Nat.reduceMul, Nat.reduceBEq, reduceIte, c2]
    · clear h hL5
      rintro v6 y s h i
      rw [hI5] at i
      obtain ⟨gi5, i5⟩ := i
      replace h : m_ref02_Value_L0 a1 (v6) = some y := h
      unfold m_ref02_Value_L0 at h
      simp -implicitDefEqProofs only [go_sem, Nat.reduceEqDiff, Nat.reduceAdd, Nat.reduceLT, Nat.reduceLeDiff, Nat.reduceMul, Nat.reduceBEq, reduceIte, c2, gi5, i5]
      obtain ⟨v7, hz, h⟩ := bs h
      obtain ⟨R8, hR8⟩ : ∃ R : St → Prop, R = fun s => s.G = fillKey (cut d G) (d + 1) 4 [.box [.p (.int .i64 0), .p (.int .i64 0)]] ∧ s.F 1 = .p (.sl (a1.map cTRat)) ∧ s.F 2 = .ep (cTTerm a0) 0 ∧ s.F 4 = .bp (d + 1, 4, 0) 0 ∧ s.F 6 = .p (.int .i64 v6) ∧ s.F 22 = .p (.bool v7) ∧ True := ⟨_, rfl⟩
      refine cutR R8 ?_ ?_
      · replace h := hz
        rcases ib h with ⟨c9, h⟩ | ⟨c9, h⟩
        · cases h
          simp -implicitDefEqProofs only [go_sem, Nat.reduceEqDiff, Nat.reduceAdd, Nat.reduceLT, Nat.reduceLeDiff, Nat.reduceMul, Nat.reduceBEq, reduceIte, c2, gi5, i5, c9]
          rw [hR8]
          simp -implicitDefEqProofs only [go_sem, Nat.reduceEqDiff, Nat.reduceAdd, Nat.reduceLT, Nat.reduceLeDiff, Nat.reduceMul, Nat.reduceBEq, reduceIte, c2, gi5, i5, c9]
        · cases h
          simp -implicitDefEqProofs only [go_sem, Nat.reduceEqDiff, Nat.reduceAdd, Nat.reduceLT, Nat.reduceLeDiff, Nat.reduceMul, Nat.reduceBEq, reduceIte, c2, gi5, i5, c9]
          rw [hR8]
          simp -implicitDefEqProofs only [go_sem, Nat.reduceEqDiff, Nat.reduceAdd, Nat.reduceLT, Nat.reduceLeDiff, Nat.reduceMul, Nat.reduceBEq, reduceIte, c2, gi5, i5, c9]
      · replace h := h; clear hz
        rintro s i
        rw [hR8] at i
        obtain ⟨gi10, i10⟩ := i
        clear hR8
        try dsimp only at h
        rcases ib h with ⟨c11, h⟩ | ⟨c11, h⟩
        · obtain ⟨v12, hv12, h⟩ := bs h
          replace hv12 := gis hv12
          obtain ⟨r13, hr13, h⟩ := bs h
          simp -implicitDefEqProofs only [go_sem, Nat.reduceEqDiff, Nat.reduceAdd, Nat.reduceLT, Nat.reduceLeDiff, Nat.reduceMul, Nat.reduceBEq, reduceIte, c2, gi5, i5, gi10, i10, c11, hv12]
          refine call_frz (r' := .p (.bool r13)) (m_ref01_Right_ev v12 r13 hr13 (d + 1) empty) (by simp -implicitDefEqProofs only [go_sem, Nat.reduceEqDiff, Nat.reduceAdd, Nat.reduceLT, Nat.reduceLeDiff, Nat.reduceMul, Nat.reduceBEq, reduceIte, c2, gi5, i5, gi10, i10, c11, hv12]) rfl (by simp -implicitDefEqProofs only [go_sem, Nat.reduceEqDiff, Nat.reduceAdd, Nat.reduceLT, Nat.reduceLeDiff, Nat.reduceMul, Nat.reduceBEq, reduceIte]) (by simp -implicitDefEqProofs only [go_sem, Nat.reduceEqDiff, Nat.reduceAdd, Nat.reduceLT, Nat.reduceLeDiff, Nat.reduceMul, Nat.reduceBEq, reduceIte]) ?_ rfl rfl
          rcases ib h with ⟨c14, h⟩ | ⟨c14, h⟩
          · cases h
            simp -implicitDefEqProofs only [go_sem, Nat.reduceEqDiff, Nat.reduceAdd, Nat.reduceLT, Nat.reduceLeDiff, Nat.reduceMul, Nat.reduceBEq, reduceIte, c2, gi5, i5, gi10, i10, c11, hv12, c14]
            rw [hR5]
            refine ⟨rfl, ?_⟩
            intro hr
            subst hr
            subst hQ
            simp -implicitDefEqProofs only [go_sem, Nat.reduceEqDiff, Nat.reduceAdd, Nat.reduceLT, Nat.reduceLeDiff, Nat.reduceMul, Nat.reduceBEq, reduceIte, c2, gi5, i5, gi10, i10, c11, hv12, c14, Try.results30]
          · cases h
            simp -implicitDefEqProofs only [go_sem, Nat.reduceEqDiff, Nat.reduceAdd, Nat.reduceLT, Nat.reduceLeDiff, Nat.reduceMul, Nat.reduceBEq, reduceIte, c2, gi5, i5, gi10, i10, c11, hv12, c14]
            rw [hI5]
            simp -implicitDefEqProofs only [go_sem, Nat.reduceEqDiff, Nat.reduceAdd, Nat.reduceLT, Nat.reduceLeDiff, Nat.reduceMul, Nat.reduceBEq, reduceIte, c2, gi5, i5, gi10, i10, c11, hv12, c14]
        · cases h
          simp -implicitDefEqProofs only [go_sem, Nat.reduceEqDiff, Nat.reduceAdd, Nat.reduceLT, Nat.reduceLeDiff, Nat.reduceMul, Nat.reduceBEq, reduceIte, c2, gi5, i5, gi10, i10, c11]
          rw [hR5]
          first | refine ⟨rfl, ?_⟩ | refine ⟨(), rfl, ?_⟩
          simp -implicitDefEqProofs only [go_sem, Nat.reduceEqDiff, Nat.reduceAdd, Nat.reduceLT, Nat.reduceLeDiff, Nat.reduceMul, Nat.reduceBEq, reduceIte, c2, gi5, i5, gi10, i10, c11]
    · clear hL5 hI5
      intro e s hr5
      rw [hR5] at hr5
      clear hR5
      rcases z5 with _ | r
      · try dsimp only at h hr5
        obtain ⟨rfl, gi15, i15⟩ := hr5
        simp -implicitDefEqProofs only [go_sem, Nat.reduceEqDiff, Nat.reduceAdd, Nat.reduceLT, Nat.reduceLeDiff, Nat.reduceMul, Nat.reduceBEq, reduceIte, c2, gi15, i15]
        obtain ⟨z22, hL22, h⟩ := bs h
        obtain ⟨I22, hI22⟩ : ∃ I : (Int × Int × Int) → St → Prop, I = fun a s => match a with | (v23, v24, v25) => s.G = fillKey (fillKey (cut d G) (d + 1) 4 [.box [.p (.int .i64 0), .p (.int .i64 0)]]) (d + 1) 7 [.box [.p (.int .i64 v24), .p (.int .i64 v25)]] ∧ s.F 1 = .p (.sl (a1.map cTRat)) ∧ s.F 2 = .ep (cTTerm a0) 0 ∧ s.F 4 = .bp (d + 1, 4, 0) 0 ∧ s.F 7 = .bp (d + 1, 7, 0) 0 ∧ s.F 8 = .p (.int .i64 v23) ∧ True := ⟨_, rfl⟩
        obtain ⟨R22, hR22⟩ : ∃ R : ((Int × Int) ⊕ (TRat × Int)) → GE → St → Prop, R = fun x e s => match x with | .inl (v26, v27) => e = .exit 2 ∧ s.G = fillKey (fillKey (cut d G) (d + 1) 4 [.box [.p (.int .i64 0), .p (.int .i64 0)]]) (d + 1) 7 [.box [.p (.int .i64 v26), .p (.int .i64 v27)]] ∧ s.F 4 = .bp (d + 1, 4, 0) 0 ∧ s.F 7 = .bp (d + 1, 7, 0) 0 ∧ True | .inr r => e = .ret ∧ (r = r0 → Q .ret s) := ⟨_, rfl⟩
        refine lp (ts := [9]) rfl hL22 I22 R22 ?_ ?_ ?_
        · rw [hI22]
          simp -implicitDefEqProofs only [go_sem, Nat.reduceEqDiff, Nat.reduceAdd, Nat.reduceLT, Nat.reduceLeDiff, Nat.reduceMul, Nat.reduceBEq, reduceIte, c2, gi15, i15]
        · clear h hL22
          rintro ⟨v23, v24, v25⟩ y s h i
          rw [hI22] at i
          obtain ⟨gi22, i22⟩ := i
          replace h : m_ref02_Value_L1 a0 a1 (v23, v24, v25) = some y := h
          unfold m_ref02_Value_L1 at h
          simp -implicitDefEqProofs only [go_sem, Nat.reduceEqDiff, Nat.reduceAdd, Nat.reduceLT, Nat.reduceLeDiff, Nat.reduceMul, Nat.reduceBEq, reduceIte, c2, gi15, i15, gi22, i22]
          obtain ⟨v28, hz, h⟩ := bs h
          obtain ⟨R29, hR29⟩ : ∃ R : St → Prop, R = fun s => s.G = fillKey (fillKey (cut d G) (d + 1) 4 [.box [.p (.int .i64 0), .p (.int .i64 0)]]) (d + 1) 7 [.box [.p (.int .i64 v24), .p (.int .i64 v25)]] ∧ s.F 1 = .p (.sl (a1.map cTRat)) ∧ s.F 2 = .ep (cTTerm a0) 0 ∧ s.F 4 = .bp (d + 1, 4, 0) 0 ∧ s.F 7 = .bp (d + 1, 7, 0) 0 ∧ s.F 8 = .p (.int .i64 v23) ∧ s.F 44 = .p (.bool v28) ∧ True := ⟨_, rfl⟩
          refine cutR R29 ?_ ?_
          · replace h := hz
            rcases ib h with ⟨c30, h⟩ | ⟨c30, h⟩
            · cases h
              simp -implicitDefEqProofs only [go_sem, Nat.reduceEqDiff, Nat.reduceAdd, Nat.reduceLT, Nat.reduceLeDiff, Nat.reduceMul, Nat.reduceBEq, reduceIte, c2, gi15, i15, gi22, i22, c30]
              rw [hR29]
              simp -implicitDefEqProofs only [go_sem, Nat.reduceEqDiff, Nat.reduceAdd, Nat.reduceLT, Nat.reduceLeDiff, Nat.reduceMul, Nat.reduceBEq, reduceIte, c2, gi15, i15, gi22, i22, c30]
            · cases h
              simp -implicitDefEqProofs only [go_sem, Nat.reduceEqDiff, Nat.reduceAdd, Nat.reduceLT, Nat.reduceLeDiff, Nat.reduceMul, Nat.reduceBEq, reduceIte, c2, gi15, i15, gi22, i22, c30]
              rw [hR29]
              simp -implicitDefEqProofs only [go_sem, Nat.reduceEqDiff, Nat.reduceAdd, Nat.reduceLT, Nat.reduceLeDiff, Nat.reduceMul, Nat.reduceBEq, reduceIte, c2, gi15, i15, gi22, i22, c30]
          · replace h := h; clear hz
            rintro s i
            rw [hR29] at i
            obtain ⟨gi31, i31⟩ := i
            clear hR29
            try dsimp only at h
            rcases ib h with ⟨c32, h⟩ | ⟨c32, h⟩
            · obtain ⟨v33, hv33, h⟩ := bs h
              replace hv33 := gis hv33
              obtain ⟨v34, hv34, h⟩ := bs h
              replace hv34 := gis hv34
              obtain ⟨r35, hr35, h⟩ := bs h
              simp -implicitDefEqProofs only [go_sem, Nat.reduceEqDiff, Nat.reduceAdd, Nat.reduceLT, Nat.reduceLeDiff, Nat.reduceMul, Nat.reduceBEq, reduceIte, c2, gi15, i15, gi22, i22, gi31, i31, c32, hv33, hv34]
              refine call_frz (r' := .tup [.agg [.p (.int .i64 r35.1.f0), .p (.int .i64 r35.1.f1)], .p (.int .i64 r35.2)]) (m_ref01_Do_ev 2 v33 v34 r35 hr35 (d + 1) empty) (by simp -implicitDefEqProofs only [go_sem, Nat.reduceEqDiff, Nat.reduceAdd, Nat.reduceLT, Nat.reduceLeDiff, Nat.reduceMul, Nat.reduceBEq, reduceIte, c2, gi15, i15, gi22, i22, gi31, i31, c32, hv33, hv34]) rfl (by simp -implicitDefEqProofs only [go_sem, Nat.reduceEqDiff, Nat.reduceAdd, Nat.reduceLT, Nat.reduceLeDiff, Nat.reduceMul, Nat.reduceBEq, reduceIte]) (by simp -implicitDefEqProofs only [go_sem, Nat.reduceEqDiff, Nat.reduceAdd, Nat.reduceLT, Nat.reduceLeDiff, Nat.reduceMul, Nat.reduceBEq, reduceIte]) ?_ rfl rfl
              rcases ib h with ⟨c36, h⟩ | ⟨c36, h⟩
              · cases h
                simp -implicitDefEqProofs only [go_sem, Nat.reduceEqDiff, Nat.reduceAdd, Nat.reduceLT, Nat.reduceLeDiff, Nat.reduceMul, Nat.reduceBEq, reduceIte, c2, gi15, i15, gi22, i22, gi31, i31, c32, hv33, hv34, c36]
                rw [hR22]
                refine ⟨rfl, ?_⟩
                intro hr
                subst hr
                subst hQ
                simp -implicitDefEqProofs only [go_sem, Nat.reduceEqDiff, Nat.reduceAdd, Nat.reduceLT, Nat.reduceLeDiff, Nat.reduceMul, Nat.reduceBEq, reduceIte, c2, gi15, i15, gi22, i22, gi31, i31, c32, hv33, hv34, c36, Try.results30]
              · obtain ⟨r37, hr37, h⟩ := bs h
                simp -implicitDefEqProofs only [go_sem, Nat.reduceEqDiff, Nat.reduceAdd, Nat.reduceLT, Nat.reduceLeDiff, Nat.reduceMul, Nat.reduceBEq, reduceIte, c2, gi15, i15, gi22, i22, gi31, i31, c32, hv33, hv34, c36]
                refine call_frz (r' := .tup [.agg [.p (.int .i64 r37.1.f0), .p (.int .i64 r37.1.f1)], .p (.int .i64 r37.2)]) (m_ref01_Do_ev 0 (⟨v24, v25⟩ : TRat) r35.1 r37 hr37 (d + 1) empty) (by simp -implicitDefEqProofs only [go_sem, Nat.reduceEqDiff, Nat.reduceAdd, Nat.reduceLT, Nat.reduceLeDiff, Nat.reduceMul, Nat.reduceBEq, reduceIte, c2, gi15, i15, gi22, i22, gi31, i31, c32, hv33, hv34, c36]) rfl (by simp -implicitDefEqProofs only [go_sem, Nat.reduceEqDiff, Nat.reduceAdd, Nat.reduceLT, Nat.reduceLeDiff, Nat.reduceMul, Nat.reduceBEq, reduceIte]) (by simp -implicitDefEqProofs only [go_sem, Nat.reduceEqDiff, Nat.reduceAdd, Nat.reduceLT, Nat.reduceLeDiff, Nat.reduceMul, Nat.reduceBEq, reduceIte]) ?_ rfl rfl
                rcases ib h with ⟨c38, h⟩ | ⟨c38, h⟩
                · cases h
                  simp -implicitDefEqProofs only [go_sem, Nat.reduceEqDiff, Nat.reduceAdd, Nat.reduceLT, Nat.reduceLeDiff, Nat.reduceMul, Nat.reduceBEq, reduceIte, c2, gi15, i15, gi22, i22, gi31, i31, c32, hv33, hv34, c36, c38]
                  rw [hR22]
                  refine ⟨rfl, ?_⟩
                  intro hr
                  subst hr
                  subst hQ
                  simp -implicitDefEqProofs only [go_sem, Nat.reduceEqDiff, Nat.reduceAdd, Nat.reduceLT, Nat.reduceLeDiff, Nat.reduceMul, Nat.reduceBEq, reduceIte, c2, gi15, i15, gi22, i22, gi31, i31, c32, hv33, hv34, c36, c38, Try.results30]
                · cases h
                  simp -implicitDefEqProofs only [go_sem, Nat.reduceEqDiff, Nat.reduceAdd, Nat.reduceLT, Nat.reduceLeDiff, Nat.reduceMul, Nat.reduceBEq, reduceIte, c2, gi15, i15, gi22, i22, gi31, i31, c32, hv33, hv34, c36, c38]
                  rw [hI22]
                  simp -implicitDefEqProofs only [go_sem, Nat.reduceEqDiff, Nat.reduceAdd, Nat.reduceLT, Nat.reduceLeDiff, Nat.reduceMul, Nat.reduceBEq, reduceIte, c2, gi15, i15, gi22, i22, gi31, i31, c32, hv33, hv34, c36, c38]
            · cases h
              simp -implicitDefEqProofs only [go_sem, Nat.reduceEqDiff, Nat.reduceAdd, Nat.reduceLT, Nat.reduceLeDiff, Nat.reduceMul, Nat.reduceBEq, reduceIte, c2, gi15, i15, gi22, i22, gi31, i31, c32]
              rw [hR22]
              first | refine ⟨rfl, ?_⟩ | refine ⟨(), rfl, ?_⟩
              simp -implicitDefEqProofs only [go_sem, Nat.reduceEqDiff, Nat.reduceAdd, Nat.reduceLT, Nat.reduceLeDiff, Nat.reduceMul, Nat.reduceBEq, reduceIte, c2, gi15, i15, gi22, i22, gi31, i31, c32]
        · clear hL22 hI22
          intro e s hr22
          rw [hR22] at hr22
          clear hR22
          rcases z22 with ⟨v26, v27⟩ | r
          · try dsimp only at h hr22
            obtain ⟨rfl, gi39, i39⟩ := hr22
            cases h
            subst hQ
            simp -implicitDefEqProofs only [go_sem, Nat.reduceEqDiff, Nat.reduceAdd, Nat.reduceLT, Nat.reduceLeDiff, Nat.reduceMul, Nat.reduceBEq, reduceIte, c2, gi15, i15, gi39, i39, Try.results30]
          · try dsimp only at h hr22
            obtain ⟨rfl, hr22⟩ := hr22
            cases h
            try simp -implicitDefEqProofs only [go_sem, Nat.reduceEqDiff, Nat.reduceAdd, Nat.reduceLT, Nat.reduceLeDiff, Nat.reduceMul, Nat.reduceBEq, reduceIte]
            exact hr22 rfl
      · try dsimp only at h hr5
        obtain ⟨rfl, hr5⟩ := hr5
        cases h
        try simp -implicitDefEqProofs only [go_sem, Nat.reduceEqDiff, Nat.reduceAdd, Nat.reduceLT, Nat.reduceLeDiff, Nat.reduceMul, Nat.reduceBEq, reduceIte]
        exact hr5 rfl
theorem m_ref02_Small_ev (a0 : TTerm) (r0 : Bool) (h : m_ref02_Small a0 = some r0) (d : Nat) (G : Heap) : Tel Try.prog TB d 17 [.agg ((cTTerm a0).map .p)] G (.p (.bool r0)) (G) := by
  unfold m_ref02_Small at h
  refine Tel.intro mix Try.func17 rfl (Nat.le_of_ble_eq_true rfl) {frzAt := fun t => t == 1} (by kernel_rfl) (by kernel_rfl) ?_
  generalize hQ : callPost _ _ _ _ _ = Q
  cases h
  subst hQ
  simp -implicitDefEqProofs only [go_sem, Nat.reduceEqDiff, Nat.reduceAdd, Nat.reduceLT, Nat.reduceLeDiff, Nat.reduceMul, Nat.reduceBEq, reduceIte, Try.results17]
end Go.E
