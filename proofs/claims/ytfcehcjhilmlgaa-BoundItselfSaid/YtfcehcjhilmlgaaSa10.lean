import Derived.Test.YtfcehcjhilmlgaaSa9
section
set_option linter.all false
set_option maxRecDepth 100000
namespace Go.E
open Go Go.Proofs Go.Eng
variable {TB : Nat → Option Obj}
theorem m_bound_engine_witness_ev (a0 : TBound_engine) (a1 : List TBound_stage) (a2 : List TTerm) (a3 : List Int) (r0 : (List TRat) × TBound_engine) (h : m_bound_engine_witness a0 a1 a2 a3 = some r0) (d : Nat) (G : Heap) (e0 t0 : Nat) (he0 : e0 ≤ d) (hGt0 : G e0 t0 = [.box [.p (.bool a0.f0)]]) : Tel Try.prog TB d 41 [.bp (e0, t0, 0) 0, .p (.sl (a1.map cTBound_stage)), .p (.sl (a2.map cTTerm)), .p (.sl (a3.map cii64))] G (.own (r0.1.map cTRat) 2) (fillKey (G) e0 t0 ([.box [.p (.bool r0.2.f0)]])) := by
  unfold m_bound_engine_witness at h
  refine Tel.intro mix Try.func41 rfl (Nat.le_of_ble_eq_true rfl) {openAt := fun t => t == 40 || t == 59, borAt := fun t => t == 56, frzAt := fun t => t == 30, boxAt := fun t => if t = 63 then some 900063 else if t = 65 then some 13 else if t = 68 then some 13 else none, clean := fun r => if r = 8 then [12, 13] else []} (by kernel_rfl) (by kernel_rfl) ?_
  have le0 : (e0 ≤ d + 1) = True := by simp; omega
  have qe0 : (e0 = d + 1) = False := by simp; omega
  have pe0 : (d + 1 = e0) = False := by simp; omega
  refine gwp_heap (H' := fillKey (cut d G) e0 t0 [.box [.p (.bool a0.f0)]]) ?_ ?_
  · rw [fill_self (B := cut d G) (a := e0) (b := t0) (by rw [cut_app, if_pos he0]; exact hGt0)]
  generalize hQ : callPost _ _ _ _ _ = Q
  obtain ⟨r1, hr1, h⟩ := bs h
  simp -implicitDefEqProofs only [go_sem, Nat.reduceEqDiff, Nat.reduceAdd, Nat.reduceLT, Nat.reduceLeDiff, Nat.reduceMul, Nat.reduceBEq, reduceIte, he0, le0, qe0, pe0]
  refine call_own (r' := .arr (d + 1, 16, 0) r1.length 2) (os := [.arr (r1.map cTRat)]) (m_slices_Repeat_api_Rat_ev ([(⟨0, 1⟩ : TRat)]) 8 r1 hr1 (d + 1) empty) (by simp -implicitDefEqProofs only [go_sem, Nat.reduceEqDiff, Nat.reduceAdd, Nat.reduceLT, Nat.reduceLeDiff, Nat.reduceMul, Nat.reduceBEq, reduceIte, he0, le0, qe0, pe0]) rfl (by simp -implicitDefEqProofs only [go_sem, Nat.reduceEqDiff, Nat.reduceAdd, Nat.reduceLT, Nat.reduceLeDiff, Nat.reduceMul, Nat.reduceBEq, reduceIte]) (by simp -implicitDefEqProofs only [go_sem, Nat.reduceEqDiff, Nat.reduceAdd, Nat.reduceLT, Nat.reduceLeDiff, Nat.reduceMul, Nat.reduceBEq, reduceIte, he0, le0, qe0, pe0]) (by simp -implicitDefEqProofs only [go_sem, Nat.reduceEqDiff, Nat.reduceAdd, Nat.reduceLT, Nat.reduceLeDiff, Nat.reduceMul, Nat.reduceBEq, reduceIte]) ?_ rfl rfl
  simp -implicitDefEqProofs only [go_sem, Nat.reduceEqDiff, Nat.reduceAdd, Nat.reduceLT, Nat.reduceLeDiff, Nat.reduceMul, Nat.reduceBEq, reduceIte, he0, le0, qe0, pe0]
  obtain ⟨z8, hL8, h⟩ := bs h
  obtain ⟨I8, hI8⟩ : ∃ I : (Int × Bool × (List TRat)) → St → Prop, I = fun a s => match a with | (v9, v10, v11) => s.G = fillKey (fillKey (cut d G) e0 t0 [.box [.p (.bool v10)]]) (d + 1) 16 [.arr (v11.map cTRat)] ∧ s.F 0 = .bp (e0, t0, 0) 0 ∧ s.F 1 = .p (.sl (a1.map cTBound_stage)) ∧ s.F 2 = .p (.sl (a2.map cTTerm)) ∧ s.F 3 = .p (.sl (a3.map cii64)) ∧ s.F 9 = .arr (d + 1, 16, 0) v11.length 2 ∧ s.F 10 = .p (.int .i64 v9) ∧ True := ⟨_, rfl⟩
  obtain ⟨R8, hR8⟩ : ∃ R : (Bool × (List TRat)) → GE → St → Prop, R = fun x e s => match x with | (v12, v13) => e = .exit 0 ∧ s.G = fillKey (fillKey (cut d G) e0 t0 [.box [.p (.bool v12)]]) (d + 1) 16 [.arr (v13.map cTRat)] ∧ s.F 0 = .bp (e0, t0, 0) 0 ∧ s.F 2 = .p (.sl (a2.map cTTerm)) ∧ s.F 3 = .p (.sl (a3.map cii64)) ∧ s.F 9 = .arr (d + 1, 16, 0) v13.length 2 ∧ True := ⟨_, rfl⟩
  refine lp (ts := []) rfl hL8 I8 R8 ?_ ?_ ?_
  · rw [hI8]
    simp -implicitDefEqProofs only [go_sem, Nat.reduceEqDiff, Nat.reduceAdd, Nat.reduceLT, Nat.reduceLeDiff, Nat.reduceMul, Nat.reduceBEq, reduceIte, he0, le0, qe0, pe0]
  · clear h hL8
    rintro ⟨v9, v10, v11⟩ y s h i
    rw [hI8] at i
    obtain ⟨gi8, i8⟩ := i
    replace h : m_bound_engine_witness_L0 a3 a1 (v9, v10, v11) = some y := h
    unfold m_bound_engine_witness_L0 at h
    simp -implicitDefEqProofs only [go_sem, Nat.reduceEqDiff, Nat.reduceAdd, Nat.reduceLT, Nat.reduceLeDiff, Nat.reduceMul, Nat.reduceBEq, reduceIte, he0, le0, qe0, pe0, gi8, i8]
    obtain ⟨v14, hz, h⟩ := bs h
    obtain ⟨R15, hR15⟩ : ∃ R : St → Prop, R = fun s => s.G = fillKey (fillKey (cut d G) e0 t0 [.box [.p (.bool v10)]]) (d + 1) 16 [.arr (v11.map cTRat)] ∧ s.F 0 = .bp (e0, t0, 0) 0 ∧ s.F 1 = .p (.sl (a1.map cTBound_stage)) ∧ s.F 2 = .p (.sl (a2.map cTTerm)) ∧ s.F 3 = .p (.sl (a3.map cii64)) ∧ s.F 9 = .arr (d + 1, 16, 0) v11.length 2 ∧ s.F 10 = .p (.int .i64 v9) ∧ s.F 25 = .p (.bool v14) ∧ True := ⟨_, rfl⟩
    refine cutR R15 ?_ ?_
    · replace h := hz
      rcases ib h with ⟨c16, h⟩ | ⟨c16, h⟩
      · cases h
        simp -implicitDefEqProofs only [go_sem, Nat.reduceEqDiff, Nat.reduceAdd, Nat.reduceLT, Nat.reduceLeDiff, Nat.reduceMul, Nat.reduceBEq, reduceIte, he0, le0, qe0, pe0, gi8, i8, c16]
        rw [hR15]
        simp -implicitDefEqProofs only [go_sem, Nat.reduceEqDiff, Nat.reduceAdd, Nat.reduceLT, Nat.reduceLeDiff, Nat.reduceMul, Nat.reduceBEq, reduceIte, he0, le0, qe0, pe0, gi8, i8, c16]
      · cases h
        simp -implicitDefEqProofs only [go_sem, Nat.reduceEqDiff, Nat.reduceAdd, Nat.reduceLT, Nat.reduceLeDiff, Nat.reduceMul, Nat.reduceBEq, reduceIte, he0, le0, qe0, pe0, gi8, i8, c16]
        rw [hR15]
        simp -implicitDefEqProofs only [go_sem, Nat.reduceEqDiff, Nat.reduceAdd, Nat.reduceLT, Nat.reduceLeDiff, Nat.reduceMul, Nat.reduceBEq, reduceIte, he0, le0, qe0, pe0, gi8, i8, c16]
    · replace h := h; clear hz
      rintro s i
      rw [hR15] at i
      obtain ⟨gi17, i17⟩ := i
      clear hR15
      try dsimp only at h
      rcases ib h with ⟨c18, h⟩ | ⟨c18, h⟩
      · obtain ⟨r19, hr19, h⟩ := bs h
        simp -implicitDefEqProofs only [go_sem, Nat.reduceEqDiff, Nat.reduceAdd, Nat.reduceLT, Nat.reduceLeDiff, Nat.reduceMul, Nat.reduceBEq, reduceIte, he0, le0, qe0, pe0, gi8, i8, gi17, i17, c18]
        refine call_frz (r' := .p (.bool r19)) (m_slices_Contains_int_ev a3 v9 r19 hr19 (d + 1) empty) (by simp -implicitDefEqProofs only [go_sem, Nat.reduceEqDiff, Nat.reduceAdd, Nat.reduceLT, Nat.reduceLeDiff, Nat.reduceMul, Nat.reduceBEq, reduceIte, he0, le0, qe0, pe0, gi8, i8, gi17, i17, c18]) rfl (by simp -implicitDefEqProofs only [go_sem, Nat.reduceEqDiff, Nat.reduceAdd, Nat.reduceLT, Nat.reduceLeDiff, Nat.reduceMul, Nat.reduceBEq, reduceIte]) (by simp -implicitDefEqProofs only [go_sem, Nat.reduceEqDiff, Nat.reduceAdd, Nat.reduceLT, Nat.reduceLeDiff, Nat.reduceMul, Nat.reduceBEq, reduceIte]) ?_ rfl rfl
        simp -implicitDefEqProofs only [go_sem, Nat.reduceEqDiff, Nat.reduceAdd, Nat.reduceLT, Nat.reduceLeDiff, Nat.reduceMul, Nat.reduceBEq, reduceIte, he0, le0, qe0, pe0, gi8, i8, gi17, i17, c18]
        obtain ⟨⟨v20, v21⟩, hz, h⟩ := bs h
        obtain ⟨R22, hR22⟩ : ∃ R : St → Prop, R = fun s => s.G = fillKey (fillKey (cut d G) e0 t0 [.box [.p (.bool v20)]]) (d + 1) 16 [.arr (v21.map cTRat)] ∧ s.F 0 = .bp (e0, t0, 0) 0 ∧ s.F 1 = .p (.sl (a1.map cTBound_stage)) ∧ s.F 2 = .p (.sl (a2.map cTTerm)) ∧ s.F 3 = .p (.sl (a3.map cii64)) ∧ s.F 9 = .arr (d + 1, 16, 0) v21.length 2 ∧ s.F 10 = .p (.int .i64 v9) ∧ True := ⟨_, rfl⟩
        refine cutG R22 ?_ ?_
        · replace h := hz
          rcases ib h with ⟨c23, h⟩ | ⟨c23, h⟩
          · obtain ⟨v24, hv24, h⟩ := bs h
            replace hv24 := gis hv24
            obtain ⟨r25, hr25, h⟩ := bs h
            simp -implicitDefEqProofs only [go_sem, Nat.reduceEqDiff, Nat.reduceAdd, Nat.reduceLT, Nat.reduceLeDiff, Nat.reduceMul, Nat.reduceBEq, reduceIte, he0, le0, qe0, pe0, gi8, i8, gi17, i17, c18, c23, hv24]
            refine call_open0 (t0 := 999) (r := .agg [.p (.int .i64 r25.1.f0), .p (.int .i64 r25.1.f1)]) (m_bound_engine_choose_ev (⟨v10⟩ : TBound_engine) v24 v11 r25 hr25 (d + 1) _ e0 t0 (Nat.le_succ_of_le he0) (by simp -implicitDefEqProofs only [go_sem, Nat.reduceEqDiff, Nat.reduceAdd, Nat.reduceLT, Nat.reduceLeDiff, Nat.reduceMul, Nat.reduceBEq, reduceIte, he0, le0, qe0, pe0, gi8, i8, gi17, i17, c18, c23, hv24])  (d + 1) 16 (Nat.le_refl _) (by simp -implicitDefEqProofs only [go_sem, Nat.reduceEqDiff, Nat.reduceAdd, Nat.reduceLT, Nat.reduceLeDiff, Nat.reduceMul, Nat.reduceBEq, reduceIte, he0, le0, qe0, pe0, gi8, i8, gi17, i17, c18, c23, hv24])  (by simp [qe0])) (by simp -implicitDefEqProofs only [go_sem, Nat.reduceEqDiff, Nat.reduceAdd, Nat.reduceLT, Nat.reduceLeDiff, Nat.reduceMul, Nat.reduceBEq, reduceIte, he0, le0, qe0, pe0, gi8, i8, gi17, i17, c18, c23, hv24]) rfl (by simp -implicitDefEqProofs only [go_sem, Nat.reduceEqDiff, Nat.reduceAdd, Nat.reduceLT, Nat.reduceLeDiff, Nat.reduceMul, Nat.reduceBEq, reduceIte, he0, le0, qe0, pe0, gi8, i8, gi17, i17, c18, c23, hv24]) (by simp -implicitDefEqProofs only [go_sem, Nat.reduceEqDiff, Nat.reduceAdd, Nat.reduceLT, Nat.reduceLeDiff, Nat.reduceMul, Nat.reduceBEq, reduceIte, he0, le0, qe0, pe0, gi8, i8, gi17, i17, c18, c23, hv24]) (by simp -implicitDefEqProofs only [go_sem, Nat.reduceEqDiff, Nat.reduceAdd, Nat.reduceLT, Nat.reduceLeDiff, Nat.reduceMul, Nat.reduceBEq, reduceIte]) ?_
            have cl26 : (r25.2.2).length = ((v11 : List TRat)).length := by have := len_choose hr25; (try simp only [List.length_set] at this); first | exact this | exact this.trans rfl
            have cv26 := arV_len (c := cTRat) (κ := (d + 1, 16, 0)) (n := 2) cl26
            have ce26 := nil_len cl26
            obtain ⟨_, c27, h⟩ := bs h
            replace c27 := rqs c27
            obtain ⟨_, c28, h⟩ := bs h
            replace c28 := rqs c28
            obtain ⟨v29, hv29, h⟩ := bs h
            replace hv29 := gis hv29
            cases h
            simp -implicitDefEqProofs only [go_sem, Nat.reduceEqDiff, Nat.reduceAdd, Nat.reduceLT, Nat.reduceLeDiff, Nat.reduceMul, Nat.reduceBEq, reduceIte, he0, le0, qe0, pe0, gi8, i8, gi17, i17, c18, c23, hv24, cl26, cv26, ce26, c27, c28, hv29]
            rw [hR22]
            simp -implicitDefEqProofs only [go_sem, Nat.reduceEqDiff, Nat.reduceAdd, Nat.reduceLT, Nat.reduceLeDiff, Nat.reduceMul, Nat.reduceBEq, reduceIte, he0, le0, qe0, pe0, gi8, i8, gi17, i17, c18, c23, hv24, cl26, cv26, ce26, c27, c28, hv29]
          · cases h
            simp -implicitDefEqProofs only [go_sem, Nat.reduceEqDiff, Nat.reduceAdd, Nat.reduceLT, Nat.reduceLeDiff, Nat.reduceMul, Nat.reduceBEq, reduceIte, he0, le0, qe0, pe0, gi8, i8, gi17, i17, c18, c23]
            rw [hR22]
            simp -implicitDefEqProofs only [go_sem, Nat.reduceEqDiff, Nat.reduceAdd, Nat.reduceLT, Nat.reduceLeDiff, Nat.reduceMul, Nat.reduceBEq, reduceIte, he0, le0, qe0, pe0, gi8, i8, gi17, i17, c18, c23]
        · replace h := h; clear hz
          rintro s i
          rw [hR22] at i
          obtain ⟨gi30, i30⟩ := i
          clear hR22
          try dsimp only at h
          cases h
          simp -implicitDefEqProofs only [go_sem, Nat.reduceEqDiff, Nat.reduceAdd, Nat.reduceLT, Nat.reduceLeDiff, Nat.reduceMul, Nat.reduceBEq, reduceIte, he0, le0, qe0, pe0, gi8, i8, gi17, i17, c18, gi30, i30]
          rw [hI8]
          simp -implicitDefEqProofs only [go_sem, Nat.reduceEqDiff, Nat.reduceAdd, Nat.reduceLT, Nat.reduceLeDiff, Nat.reduceMul, Nat.reduceBEq, reduceIte, he0, le0, qe0, pe0, gi8, i8, gi17, i17, c18, gi30, i30]
      · cases h
        simp -implicitDefEqProofs only [go_sem, Nat.reduceEqDiff, Nat.reduceAdd, Nat.reduceLT, Nat.reduceLeDiff, Nat.reduceMul, Nat.reduceBEq, reduceIte, he0, le0, qe0, pe0, gi8, i8, gi17, i17, c18]
        rw [hR8]
        first | refine ⟨rfl, ?_⟩ | refine ⟨(), rfl, ?_⟩
        simp -implicitDefEqProofs only [go_sem, Nat.reduceEqDiff, Nat.reduceAdd, Nat.reduceLT, Nat.reduceLeDiff, Nat.reduceMul, Nat.reduceBEq, reduceIte, he0, le0, qe0, pe0, gi8, i8, gi17, i17, c18]
  · clear hL8 hI8
    intro e s hr8
    rw [hR8] at hr8
    clear hR8
    rcases z8 with ⟨v12, v13⟩
    try dsimp only at h hr8
    obtain ⟨rfl, gi31, i31⟩ := hr8
    simp -implicitDefEqProofs only [go_sem, Nat.reduceEqDiff, Nat.reduceAdd, Nat.reduceLT, Nat.reduceLeDiff, Nat.reduceMul, Nat.reduceBEq, reduceIte, he0, le0, qe0, pe0, gi31, i31]
    obtain ⟨z38, hL38, h⟩ := bs h
    obtain ⟨I38, hI38⟩ : ∃ I : (Int × Bool × (List TRat)) → St → Prop, I = fun a s => match a with | (v39, v40, v41) => s.G = fillKey (fillKey (cut d G) e0 t0 [.box [.p (.bool v40)]]) (d + 1) 16 [.arr (v41.map cTRat)] ∧ s.F 0 = .bp (e0, t0, 0) 0 ∧ s.F 3 = .p (.sl (a3.map cii64)) ∧ s.F 9 = .arr (d + 1, 16, 0) v41.length 2 ∧ s.F 42 = .p (.sl (a2.map cTTerm)) ∧ s.F 43 = .p (.int .i64 (a2.length : Int)) ∧ s.F 44 = .p (.int .i64 v39) ∧ True := ⟨_, rfl⟩
    obtain ⟨R38, hR38⟩ : ∃ R : (Bool × (List TRat)) → GE → St → Prop, R = fun x e s => match x with | (v43, v44) => e = .exit 2 ∧ (∃ j42, s.G = fillKey (fillKey (fillKey (cut d G) e0 t0 [.box [.p (.bool v43)]]) (d + 1) 12 j42) (d + 1) 16 [.arr (v44.map cTRat)] ∧ s.F 9 = .arr (d + 1, 16, 0) v44.length 2 ∧ True) := ⟨_, rfl⟩
    refine lp (ts := [12, 13]) rfl hL38 I38 R38 ?_ ?_ ?_
    · rw [hI38]
      simp -implicitDefEqProofs only [go_sem, Nat.reduceEqDiff, Nat.reduceAdd, Nat.reduceLT, Nat.reduceLeDiff, Nat.reduceMul, Nat.reduceBEq, reduceIte, he0, le0, qe0, pe0, gi31, i31]
    · clear h hL38
      rintro ⟨v39, v40, v41⟩ y s h i
      rw [hI38] at i
      obtain ⟨gi38, i38⟩ := i
      replace h : m_bound_engine_witness_L1 a2 a3 (v39, v40, v41) = some y := h
      unfold m_bound_engine_witness_L1 at h
      rcases ib h with ⟨c45, h⟩ | ⟨c45, h⟩
      · obtain ⟨v46, hv46, h⟩ := bs h
        replace hv46 := gis hv46
        rcases ib h with ⟨c47, h⟩ | ⟨c47, h⟩
        · cases h
          simp -implicitDefEqProofs only [go_sem, Nat.reduceEqDiff, Nat.reduceAdd, Nat.reduceLT, Nat.reduceLeDiff, Nat.reduceMul, Nat.reduceBEq, reduceIte, he0, le0, qe0, pe0, gi31, i31, gi38, i38, c45, hv46, c47]
          rw [hR38]
          first | refine ⟨rfl, [.box [.p (.sl (v46.f0.map cTRat)), .p (.int .i64 v46.f1.f0), .p (.int .i64 v46.f1.f1)]], ?_⟩ | refine ⟨(), rfl, [.box [.p (.sl (v46.f0.map cTRat)), .p (.int .i64 v46.f1.f0), .p (.int .i64 v46.f1.f1)]], ?_⟩
          simp -implicitDefEqProofs only [go_sem, Nat.reduceEqDiff, Nat.reduceAdd, Nat.reduceLT, Nat.reduceLeDiff, Nat.reduceMul, Nat.reduceBEq, reduceIte, he0, le0, qe0, pe0, gi31, i31, gi38, i38, c45, hv46, c47]
        · obtain ⟨r48, hr48, h⟩ := bs h
          simp -implicitDefEqProofs only [go_sem, Nat.reduceEqDiff, Nat.reduceAdd, Nat.reduceLT, Nat.reduceLeDiff, Nat.reduceMul, Nat.reduceBEq, reduceIte, he0, le0, qe0, pe0, gi31, i31, gi38, i38, c45, hv46, c47]
          refine call_look (m_term_Value_ev v46 v41 r48 hr48 (d + 1) empty) (by simp -implicitDefEqProofs only [go_sem, Nat.reduceEqDiff, Nat.reduceAdd, Nat.reduceLT, Nat.reduceLeDiff, Nat.reduceMul, Nat.reduceBEq, reduceIte, he0, le0, qe0, pe0, gi31, i31, gi38, i38, c45, hv46, c47]) (by simp -implicitDefEqProofs only [go_sem, Nat.reduceEqDiff, Nat.reduceAdd, Nat.reduceLT, Nat.reduceLeDiff, Nat.reduceMul, Nat.reduceBEq, reduceIte]) (by simp -implicitDefEqProofs only [go_sem, Nat.reduceEqDiff, Nat.reduceAdd, Nat.reduceLT, Nat.reduceLeDiff, Nat.reduceMul, Nat.reduceBEq, reduceIte]) ?_ rfl
          obtain ⟨r49, hr49, h⟩ := bs h
          simp -implicitDefEqProofs only [go_sem, Nat.reduceEqDiff, Nat.reduceAdd, Nat.reduceLT, Nat.reduceLeDiff, Nat.reduceMul, Nat.reduceBEq, reduceIte, he0, le0, qe0, pe0, gi31, i31, gi38, i38, c45, hv46, c47]
          refine call_open0 (t0 := 999) (r := .agg [.p (.int .i64 r49.1.f0), .p (.int .i64 r49.1.f1)]) (m_bound_engine_rat_ev (⟨v40⟩ : TBound_engine) r48.1 r48.2 r49 hr49 (d + 1) _ e0 t0 (Nat.le_succ_of_le he0) (by simp -implicitDefEqProofs only [go_sem, Nat.reduceEqDiff, Nat.reduceAdd, Nat.reduceLT, Nat.reduceLeDiff, Nat.reduceMul, Nat.reduceBEq, reduceIte, he0, le0, qe0, pe0, gi31, i31, gi38, i38, c45, hv46, c47]) ) (by simp -implicitDefEqProofs only [go_sem, Nat.reduceEqDiff, Nat.reduceAdd, Nat.reduceLT, Nat.reduceLeDiff, Nat.reduceMul, Nat.reduceBEq, reduceIte, he0, le0, qe0, pe0, gi31, i31, gi38, i38, c45, hv46, c47]) rfl (by simp -implicitDefEqProofs only [go_sem, Nat.reduceEqDiff, Nat.reduceAdd, Nat.reduceLT, Nat.reduceLeDiff, Nat.reduceMul, Nat.reduceBEq, reduceIte, he0, le0, qe0, pe0, gi31, i31, gi38, i38, c45, hv46, c47]) (by simp -implicitDefEqProofs only [go_sem, Nat.reduceEqDiff, Nat.reduceAdd, Nat.reduceLT, Nat.reduceLeDiff, Nat.reduceMul, Nat.reduceBEq, reduceIte, he0, le0, qe0, pe0, gi31, i31, gi38, i38, c45, hv46, c47]) (by simp -implicitDefEqProofs only [go_sem, Nat.reduceEqDiff, Nat.reduceAdd, Nat.reduceLT, Nat.reduceLeDiff, Nat.reduceMul, Nat.reduceBEq, reduceIte]) ?_
          obtain ⟨v50, hv50, h⟩ := bs h
          replace hv50 := gis hv50
          obtain ⟨_, c51, h⟩ := bs h
          replace c51 := rqs c51
          obtain ⟨_, c52, h⟩ := bs h
          replace c52 := rqs c52
          obtain ⟨v53, hv53, h⟩ := bs h
          replace hv53 := gis hv53
          cases h
          simp -implicitDefEqProofs only [go_sem, Nat.reduceEqDiff, Nat.reduceAdd, Nat.reduceLT, Nat.reduceLeDiff, Nat.reduceMul, Nat.reduceBEq, reduceIte, he0, le0, qe0, pe0, gi31, i31, gi38, i38, c45, hv46, c47, hv50, c51, c52, hv53]
          rw [hI38]
          simp -implicitDefEqProofs only [go_sem, Nat.reduceEqDiff, Nat.reduceAdd, Nat.reduceLT, Nat.reduceLeDiff, Nat.reduceMul, Nat.reduceBEq, reduceIte, he0, le0, qe0, pe0, gi31, i31, gi38, i38, c45, hv46, c47, hv50, c51, c52, hv53]
      · cases h
        simp -implicitDefEqProofs only [go_sem, Nat.reduceEqDiff, Nat.reduceAdd, Nat.reduceLT, Nat.reduceLeDiff, Nat.reduceMul, Nat.reduceBEq, reduceIte, he0, le0, qe0, pe0, gi31, i31, gi38, i38, c45]
        rw [hR38]
        first | refine ⟨rfl, [], ?_⟩ | refine ⟨(), rfl, [], ?_⟩
        simp -implicitDefEqProofs only [go_sem, Nat.reduceEqDiff, Nat.reduceAdd, Nat.reduceLT, Nat.reduceLeDiff, Nat.reduceMul, Nat.reduceBEq, reduceIte, he0, le0, qe0, pe0, gi31, i31, gi38, i38, c45]
    · clear hL38 hI38
      intro e s hr38
      rw [hR38] at hr38
      clear hR38
      rcases z38 with ⟨v43, v44⟩
      try dsimp only at h hr38
      obtain ⟨rfl, j42, gi54, i54⟩ := hr38
      cases h
      subst hQ
      simp -implicitDefEqProofs only [go_sem, Nat.reduceEqDiff, Nat.reduceAdd, Nat.reduceLT, Nat.reduceLeDiff, Nat.reduceMul, Nat.reduceBEq, reduceIte, he0, le0, qe0, pe0, gi31, i31, gi54, i54, Try.results41]
theorem m_bound_engine_solve_1_ev (a0 : TRow) (r0 : Bool) (h : m_bound_engine_solve_1 a0 = some r0) (d : Nat) (G : Heap) : Tel Try.prog TB d 40 [.agg ((cTRow a0).map .p)] G (.p (.bool r0)) (G) := by
  unfold m_bound_engine_solve_1 at h
  refine Tel.intro mix Try.func40 rfl (Nat.le_of_ble_eq_true rfl) {frzAt := fun t => t == 1} (by kernel_rfl) (by kernel_rfl) ?_
  generalize hQ : callPost _ _ _ _ _ = Q
  rcases ib h with ⟨c1, h⟩ | ⟨c1, h⟩
  · cases h
    subst hQ
    simp -implicitDefEqProofs only [go_sem, Nat.reduceEqDiff, Nat.reduceAdd, Nat.reduceLT, Nat.reduceLeDiff, Nat.reduceMul, Nat.reduceBEq, reduceIte, c1, Try.results40]
  · rcases ib h with ⟨c2, h⟩ | ⟨c2, h⟩
    · cases h
      subst hQ
      simp -implicitDefEqProofs only [go_sem, Nat.reduceEqDiff, Nat.reduceAdd, Nat.reduceLT, Nat.reduceLeDiff, Nat.reduceMul, Nat.reduceBEq, reduceIte, c1, c2, Try.results40]
    · cases h
      subst hQ
      simp -implicitDefEqProofs only [go_sem, Nat.reduceEqDiff, Nat.reduceAdd, Nat.reduceLT, Nat.reduceLeDiff, Nat.reduceMul, Nat.reduceBEq, reduceIte, c1, c2, Try.results40]
theorem m_bound_engine_solve_ev (a0 : TBound_engine) (a1 : List TRow) (r0 : (List TRat) × Int × TBound_engine) (h : m_bound_engine_solve a0 a1 = some r0) (d : Nat) (G : Heap) (e0 t0 : Nat) (he0 : e0 ≤ d) (hGt0 : G e0 t0 = [.box [.p (.bool a0.f0)]]) : Tel Try.prog TB d 25 [.bp (e0, t0, 0) 0, .p (.sl (a1.map cTRow))] G (.tup [.p (.sl (r0.1.map cTRat)), .p (.int .i64 r0.2.1)]) (fillKey (G) e0 t0 ([.box [.p (.bool r0.2.2.f0)]])) := by
  unfold m_bound_engine_solve at h
  refine Tel.intro mix Try.func25 rfl (Nat.le_of_ble_eq_true rfl) {openAt := fun t => t == 62 || t == 81 || t == 98, drwAt := fun t => t == 62, frzAt := fun t => t == 36 || t == 58 || t == 93, boxAt := fun t => if t = 54 then some 14 else if t = 56 then some 14 else if t = 1000064 then some 64 else none, clean := fun r => if r = 3 then [8] else if r = 13 then [14] else if r = 20 then [17, 1000012] else []} (by kernel_rfl) (by kernel_rfl) ?_
  have le0 : (e0 ≤ d + 1) = True := by simp; omega
  have qe0 : (e0 = d + 1) = False := by simp; omega
  have pe0 : (d + 1 = e0) = False := by simp; omega
  refine gwp_heap (H' := fillKey (cut d G) e0 t0 [.box [.p (.bool a0.f0)]]) ?_ ?_
  · rw [fill_self (B := cut d G) (a := e0) (b := t0) (by rw [cut_app, if_pos he0]; exact hGt0)]
  generalize hQ : callPost _ _ _ _ _ = Q
  simp -implicitDefEqProofs only [go_sem, Nat.reduceEqDiff, Nat.reduceAdd, Nat.reduceLT, Nat.reduceLeDiff, Nat.reduceMul, Nat.reduceBEq, reduceIte, he0, le0, qe0, pe0]
  obtain ⟨z7, hL7, h⟩ := bs h
  obtain ⟨I7, hI7⟩ : ∃ I : ((List TTerm) × Int) → St → Prop, I = fun a s => match a with | (v8, v10) => ∃ o9, s.G = fillKey (fillKey (cut d G) e0 t0 [.box [.p (.bool a0.f0)]]) (d + 1) 32 (growO o9 32 3 (v8.map cTTerm)) ∧ growOK o9 [32] ∧ s.F 0 = .bp (e0, t0, 0) 0 ∧ s.F 1 = .p (.sl (a1.map cTRow)) ∧ s.F 6 = growV o9 (d + 1) (v8.map cTTerm) ∧ s.F 19 = .p (.sl (a1.map cTRow)) ∧ s.F 20 = .p (.int .i64 (a1.length : Int)) ∧ s.F 21 = .p (.int .i64 v10) ∧ True := ⟨_, rfl⟩
  obtain ⟨R7, hR7⟩ : ∃ R : ((List TTerm)) → GE → St → Prop, R = fun v11 e s => e = .exit 0 ∧ (∃ o12, s.G = fillKey (fillKey (cut d G) e0 t0 [.box [.p (.bool a0.f0)]]) (d + 1) 32 (growO o12 32 3 (v11.map cTTerm)) ∧ growOK o12 [32] ∧ s.F 0 = .bp (e0, t0, 0) 0 ∧ s.F 1 = .p (.sl (a1.map cTRow)) ∧ s.F 6 = growV o12 (d + 1) (v11.map cTTerm) ∧ True) := ⟨_, rfl⟩
  refine lp (ts := [8]) rfl hL7 I7 R7 ?_ ?_ ?_
  · rw [hI7]
    refine ⟨none, ?_⟩
    simp -implicitDefEqProofs only [go_sem, Nat.reduceEqDiff, Nat.reduceAdd, Nat.reduceLT, Nat.reduceLeDiff, Nat.reduceMul, Nat.reduceBEq, reduceIte, he0, le0, qe0, pe0]
  · clear h hL7
    rintro ⟨v8, v10⟩ y s h i
    rw [hI7] at i
    obtain ⟨o9, gi7, ko9, i7⟩ := i
    replace h : m_bound_engine_solve_L0 a1 (v8, v10) = some y := h
    unfold m_bound_engine_solve_L0 at h
    rcases ib h with ⟨c13, h⟩ | ⟨c13, h⟩
    · obtain ⟨v14, hv14, h⟩ := bs h
      replace hv14 := gis hv14
      simp -implicitDefEqProofs only [go_sem, Nat.reduceEqDiff, Nat.reduceAdd, Nat.reduceLT, Nat.reduceLeDiff, Nat.reduceMul, Nat.reduceBEq, reduceIte, he0, le0, qe0, pe0, gi7, ko9, i7, c13, hv14]
      obtain ⟨v15, hz, h⟩ := bs h
      obtain ⟨R17, hR17⟩ : ∃ R : St → Prop, R = fun s => ∃ o16, s.G = fillKey (fillKey (fillKey (cut d G) e0 t0 [.box [.p (.bool a0.f0)]]) (d + 1) 8 [.box [.p (.int .i64 v14.f0), .p (.sl (v14.f1.f0.map cTRat)), .p (.int .i64 v14.f1.f1.f0), .p (.int .i64 v14.f1.f1.f1)]]) (d + 1) 32 (growO o16 32 3 (v15.map cTTerm)) ∧ growOK o16 [32] ∧ s.F 0 = .bp (e0, t0, 0) 0 ∧ s.F 1 = .p (.sl (a1.map cTRow)) ∧ s.F 6 = growV o16 (d + 1) (v15.map cTTerm) ∧ s.F 19 = .p (.sl (a1.map cTRow)) ∧ s.F 20 = .p (.int .i64 (a1.length : Int)) ∧ s.F 21 = .p (.int .i64 v10) ∧ True := ⟨_, rfl⟩
      refine cutG R17 ?_ ?_
      · replace h := hz
        rcases ib h with ⟨c18, h⟩ | ⟨c18, h⟩
        · obtain ⟨_, c19, h⟩ := bs h
          replace c19 := rqs c19
          simp -implicitDefEqProofs only [go_sem, Nat.reduceEqDiff, Nat.reduceAdd, Nat.reduceLT, Nat.reduceLeDiff, Nat.reduceMul, Nat.reduceBEq, reduceIte, he0, le0, qe0, pe0, gi7, ko9, i7, c13, hv14, c18, c19]
          refine append_G (o := o9) (ts := [32]) (es := (v8 : List TTerm).map cTTerm) (xs := ([v14.f1] : List TTerm).map cTTerm) (ho := growOK.sub ko9 (by decide)) (hG := by simp -implicitDefEqProofs only [go_sem, Nat.reduceEqDiff, Nat.reduceAdd, Nat.reduceLT, Nat.reduceLeDiff, Nat.reduceMul, Nat.reduceBEq, reduceIte, he0, le0, qe0, pe0, gi7, ko9, i7, c13, hv14, c18, c19]) (hj := by simp -implicitDefEqProofs only [go_sem, Nat.reduceEqDiff, Nat.reduceAdd, Nat.reduceLT, Nat.reduceLeDiff, Nat.reduceMul, Nat.reduceBEq, reduceIte]) (he := el94) (hx := by simp -implicitDefEqProofs only [go_sem, Nat.reduceEqDiff, Nat.reduceAdd, Nat.reduceLT, Nat.reduceLeDiff, Nat.reduceMul, Nat.reduceBEq, reduceIte, he0, le0, qe0, pe0, gi7, ko9, i7, c13, hv14, c18, c19]) (h1 := by simp -implicitDefEqProofs only [go_sem, Nat.reduceEqDiff, Nat.reduceAdd, Nat.reduceLT, Nat.reduceLeDiff, Nat.reduceMul, Nat.reduceBEq, reduceIte]) (h2 := by simp -implicitDefEqProofs only [go_sem, Nat.reduceEqDiff, Nat.reduceAdd, Nat.reduceLT, Nat.reduceLeDiff, Nat.reduceMul, Nat.reduceBEq, reduceIte]) (ha := rfl) (hra := rfl) (hb := by simpa using c19) (hbb := by decide) ?_
          intro o20 ko20
          cases h
          simp -implicitDefEqProofs only [go_sem, Nat.reduceEqDiff, Nat.reduceAdd, Nat.reduceLT, Nat.reduceLeDiff, Nat.reduceMul, Nat.reduceBEq, reduceIte, he0, le0, qe0, pe0, gi7, ko9, i7, c13, hv14, c18, c19, ko20]
          rw [hR17]
          refine ⟨o20, ?_⟩
          simp -implicitDefEqProofs only [go_sem, Nat.reduceEqDiff, Nat.reduceAdd, Nat.reduceLT, Nat.reduceLeDiff, Nat.reduceMul, Nat.reduceBEq, reduceIte, he0, le0, qe0, pe0, gi7, ko9, i7, c13, hv14, c18, c19, ko20]
        · cases h
          simp -implicitDefEqProofs only [go_sem, Nat.reduceEqDiff, Nat.reduceAdd, Nat.reduceLT, Nat.reduceLeDiff, Nat.reduceMul, Nat.reduceBEq, reduceIte, he0, le0, qe0, pe0, gi7, ko9, i7, c13, hv14, c18]
          rw [hR17]
          refine ⟨o9, ?_⟩
          simp -implicitDefEqProofs only [go_sem, Nat.reduceEqDiff, Nat.reduceAdd, Nat.reduceLT, Nat.reduceLeDiff, Nat.reduceMul, Nat.reduceBEq, reduceIte, he0, le0, qe0, pe0, gi7, ko9, i7, c13, hv14, c18]
      · replace h := h; clear hz
        rintro s i
        rw [hR17] at i
        obtain ⟨o16, gi21, ko16, i21⟩ := i
        clear hR17
        try dsimp only at h
        cases h
        simp -implicitDefEqProofs only [go_sem, Nat.reduceEqDiff, Nat.reduceAdd, Nat.reduceLT, Nat.reduceLeDiff, Nat.reduceMul, Nat.reduceBEq, reduceIte, he0, le0, qe0, pe0, gi7, ko9, i7, c13, hv14, gi21, ko16, i21]
        rw [hI7]
        refine ⟨o16, ?_⟩
        simp -implicitDefEqProofs only [go_sem, Nat.reduceEqDiff, Nat.reduceAdd, Nat.reduceLT, Nat.reduceLeDiff, Nat.reduceMul, Nat.reduceBEq, reduceIte, he0, le0, qe0, pe0, gi7, ko9, i7, c13, hv14, gi21, ko16, i21, poison_grow (d := d + 1) (ts := [8]) ko16 (by decide)]
    · cases h
      simp -implicitDefEqProofs only [go_sem, Nat.reduceEqDiff, Nat.reduceAdd, Nat.reduceLT, Nat.reduceLeDiff, Nat.reduceMul, Nat.reduceBEq, reduceIte, he0, le0, qe0, pe0, gi7, ko9, i7, c13]
      rw [hR7]
      first | refine ⟨rfl, o9, ?_⟩ | refine ⟨(), rfl, o9, ?_⟩
      simp -implicitDefEqProofs only [go_sem, Nat.reduceEqDiff, Nat.reduceAdd, Nat.reduceLT, Nat.reduceLeDiff, Nat.reduceMul, Nat.reduceBEq, reduceIte, he0, le0, qe0, pe0, gi7, ko9, i7, c13]
  · clear hL7 hI7
    intro e s hr7
    rw [hR7] at hr7
    clear hR7
    revert h hr7
    generalize z7 = v11
    intro h hr7
    try dsimp only at h hr7
    obtain ⟨rfl, o12, gi22, ko12, i22⟩ := hr7
    obtain ⟨r23, hr23, h⟩ := bs h
    simp -implicitDefEqProofs only [go_sem, Nat.reduceEqDiff, Nat.reduceAdd, Nat.reduceLT, Nat.reduceLeDiff, Nat.reduceMul, Nat.reduceBEq, reduceIte, he0, le0, qe0, pe0, gi22, ko12, i22]
    refine call_frz (r' := .tup [.p (.sl (r23.1.map cTTerm)), .p (.sl (r23.2.1.map cii64)), .p (.int .i64 r23.2.2)]) (m_gauss_Solve_ev v11 r23 hr23 (d + 1) empty) (by simp -implicitDefEqProofs only [go_sem, Nat.reduceEqDiff, Nat.reduceAdd, Nat.reduceLT, Nat.reduceLeDiff, Nat.reduceMul, Nat.reduceBEq, reduceIte, he0, le0, qe0, pe0, gi22, ko12, i22]) rfl (by simp -implicitDefEqProofs only [go_sem, Nat.reduceEqDiff, Nat.reduceAdd, Nat.reduceLT, Nat.reduceLeDiff, Nat.reduceMul, Nat.reduceBEq, reduceIte]) (by simp -implicitDefEqProofs only [go_sem, Nat.reduceEqDiff, Nat.reduceAdd, Nat.reduceLT, Nat.reduceLeDiff, Nat.reduceMul, Nat.reduceBEq, reduceIte]) ?_ rfl rfl
    rcases ib h with ⟨c24, h⟩ | ⟨c24, h⟩
    · cases h
      subst hQ
      simp -implicitDefEqProofs only [go_sem, Nat.reduceEqDiff, Nat.reduceAdd, Nat.reduceLT, Nat.reduceLeDiff, Nat.reduceMul, Nat.reduceBEq, reduceIte, he0, le0, qe0, pe0, gi22, ko12, i22, c24, Try.results25]
    · simp -implicitDefEqProofs only [go_sem, Nat.reduceEqDiff, Nat.reduceAdd, Nat.reduceLT, Nat.reduceLeDiff, Nat.reduceMul, Nat.reduceBEq, reduceIte, he0, le0, qe0, pe0, gi22, ko12, i22, c24]
      obtain ⟨z33, hL33, h⟩ := bs h
      obtain ⟨I33, hI33⟩ : ∃ I : ((List TRow) × Int × Bool) → St → Prop, I = fun a s => match a with | (v34, v36, v37) => ∃ o35, s.G = fillKey (fillKey (fillKey (cut d G) e0 t0 [.box [.p (.bool v37)]]) (d + 1) 32 (growO o12 32 3 (v11.map cTTerm))) (d + 1) 64 (growO o35 64 4 (v34.map cTRow)) ∧ growOK o35 [64] ∧ s.F 0 = .bp (e0, t0, 0) 0 ∧ s.F 9 = .p (.sl (r23.1.map cTTerm)) ∧ s.F 10 = .p (.sl (r23.2.1.map cii64)) ∧ s.F 12 = growV o35 (d + 1) (v34.map cTRow) ∧ s.F 43 = .p (.sl (a1.map cTRow)) ∧ s.F 44 = .p (.int .i64 (a1.length : Int)) ∧ s.F 45 = .p (.int .i64 v36) ∧ True := ⟨_, rfl⟩
      obtain ⟨R33, hR33⟩ : ∃ R : ((List TRow) × Bool) → GE → St → Prop, R = fun x e s => match x with | (v38, v40) => e = .exit 2 ∧ (∃ o39, s.G = fillKey (fillKey (fillKey (cut d G) e0 t0 [.box [.p (.bool v40)]]) (d + 1) 32 (growO o12 32 3 (v11.map cTTerm))) (d + 1) 64 (growO o39 64 4 (v38.map cTRow)) ∧ growOK o39 [64] ∧ s.F 0 = .bp (e0, t0, 0) 0 ∧ s.F 9 = .p (.sl (r23.1.map cTTerm)) ∧ s.F 10 = .p (.sl (r23.2.1.map cii64)) ∧ s.F 12 = growV o39 (d + 1) (v38.map cTRow) ∧ True) := ⟨_, rfl⟩
      refine lp (ts := [14]) rfl hL33 I33 R33 ?_ ?_ ?_
      · rw [hI33]
        refine ⟨none, ?_⟩
        simp -implicitDefEqProofs only [go_sem, Nat.reduceEqDiff, Nat.reduceAdd, Nat.reduceLT, Nat.reduceLeDiff, Nat.reduceMul, Nat.reduceBEq, reduceIte, he0, le0, qe0, pe0, gi22, ko12, i22, c24, poison_grow (d := d + 1) (ts := [14]) ko12 (by decide)]
      · clear h hL33
        rintro ⟨v34, v36, v37⟩ y s h i
        rw [hI33] at i
        obtain ⟨o35, gi33, ko35, i33⟩ := i
        replace h : m_bound_engine_solve_L1 a1 r23 (v34, v36, v37) = some y := h
        unfold m_bound_engine_solve_L1 at h
        rcases ib h with ⟨c41, h⟩ | ⟨c41, h⟩
        · obtain ⟨v42, hv42, h⟩ := bs h
          replace hv42 := gis hv42
          simp -implicitDefEqProofs only [go_sem, Nat.reduceEqDiff, Nat.reduceAdd, Nat.reduceLT, Nat.reduceLeDiff, Nat.reduceMul, Nat.reduceBEq, reduceIte, he0, le0, qe0, pe0, gi22, ko12, i22, c24, gi33, ko35, i33, c41, hv42]
          obtain ⟨⟨v43, v45⟩, hz, h⟩ := bs h
          obtain ⟨R46, hR46⟩ : ∃ R : St → Prop, R = fun s => ∃ o44, s.G = fillKey (fillKey (fillKey (fillKey (cut d G) e0 t0 [.box [.p (.bool v45)]]) (d + 1) 14 [.box [.p (.int .i64 v42.f0), .p (.sl (v42.f1.f0.map cTRat)), .p (.int .i64 v42.f1.f1.f0), .p (.int .i64 v42.f1.f1.f1)]]) (d + 1) 32 (growO o12 32 3 (v11.map cTTerm))) (d + 1) 64 (growO o44 64 4 (v43.map cTRow)) ∧ growOK o44 [64] ∧ s.F 0 = .bp (e0, t0, 0) 0 ∧ s.F 9 = .p (.sl (r23.1.map cTTerm)) ∧ s.F 10 = .p (.sl (r23.2.1.map cii64)) ∧ s.F 12 = growV o44 (d + 1) (v43.map cTRow) ∧ s.F 43 = .p (.sl (a1.map cTRow)) ∧ s.F 44 = .p (.int .i64 (a1.length : Int)) ∧ s.F 45 = .p (.int .i64 v36) ∧ True := ⟨_, rfl⟩
          refine cutG R46 ?_ ?_
          · replace h := hz
            rcases ib h with ⟨c47, h⟩ | ⟨c47, h⟩
            · obtain ⟨r48, hr48, h⟩ := bs h
              simp -implicitDefEqProofs only [go_sem, Nat.reduceEqDiff, Nat.reduceAdd, Nat.reduceLT, Nat.reduceLeDiff, Nat.reduceMul, Nat.reduceBEq, reduceIte, he0, le0, qe0, pe0, gi22, ko12, i22, c24, gi33, ko35, i33, c41, hv42, c47]
              refine call_frz (r' := .agg [.p (.sl (r48.f0.map cTRat)), .p (.int .i64 r48.f1.f0), .p (.int .i64 r48.f1.f1)]) (m_term_Own_ev v42.f1 r48 hr48 (d + 1) empty) (by simp -implicitDefEqProofs only [go_sem, Nat.reduceEqDiff, Nat.reduceAdd, Nat.reduceLT, Nat.reduceLeDiff, Nat.reduceMul, Nat.reduceBEq, reduceIte, he0, le0, qe0, pe0, gi22, ko12, i22, c24, gi33, ko35, i33, c41, hv42, c47]) rfl (by simp -implicitDefEqProofs only [go_sem, Nat.reduceEqDiff, Nat.reduceAdd, Nat.reduceLT, Nat.reduceLeDiff, Nat.reduceMul, Nat.reduceBEq, reduceIte]) (by simp -implicitDefEqProofs only [go_sem, Nat.reduceEqDiff, Nat.reduceAdd, Nat.reduceLT, Nat.reduceLeDiff, Nat.reduceMul, Nat.reduceBEq, reduceIte]) ?_ rfl rfl
              obtain ⟨r49, hr49, h⟩ := bs h
              simp -implicitDefEqProofs only [go_sem, Nat.reduceEqDiff, Nat.reduceAdd, Nat.reduceLT, Nat.reduceLeDiff, Nat.reduceMul, Nat.reduceBEq, reduceIte, he0, le0, qe0, pe0, gi22, ko12, i22, c24, gi33, ko35, i33, c41, hv42, c47]
              refine call_drwL (t0 := 999) (r := .agg [.p (.int .i64 r49.1.f0), .p (.sl (r49.1.f1.f0.map cTRat)), .p (.int .i64 r49.1.f1.f1.f0), .p (.int .i64 r49.1.f1.f1.f1)]) [(e0, t0, [.box [.p (.bool r49.2.f0)]])] (fun H => m_bound_engine_plain_ev (⟨v37⟩ : TBound_engine) (⟨v42.f0, r48⟩ : TRow) r23.1 r23.2.1 r49 hr49 (d + 1) _ e0 t0 (Nat.le_succ_of_le he0) (by simp -implicitDefEqProofs only [go_sem, Nat.reduceEqDiff, Nat.reduceAdd, Nat.reduceLT, Nat.reduceLeDiff, Nat.reduceMul, Nat.reduceBEq, reduceIte, he0, le0, qe0, pe0, gi22, ko12, i22, c24, gi33, ko35, i33, c41, hv42, c47]) ) (by simp -implicitDefEqProofs only [go_sem, Nat.reduceEqDiff, Nat.reduceAdd, Nat.reduceLT, Nat.reduceLeDiff, Nat.reduceMul, Nat.reduceBEq, reduceIte, he0, le0, qe0, pe0, gi22, ko12, i22, c24, gi33, ko35, i33, c41, hv42, c47]) rfl (by simp -implicitDefEqProofs only [go_sem, Nat.reduceEqDiff, Nat.reduceAdd, Nat.reduceLT, Nat.reduceLeDiff, Nat.reduceMul, Nat.reduceBEq, reduceIte, he0, le0, qe0, pe0, gi22, ko12, i22, c24, gi33, ko35, i33, c41, hv42, c47]) (by simp -implicitDefEqProofs only [go_sem, Nat.reduceEqDiff, Nat.reduceAdd, Nat.reduceLT, Nat.reduceLeDiff, Nat.reduceMul, Nat.reduceBEq, reduceIte, he0, le0, qe0, pe0, gi22, ko12, i22, c24, gi33, ko35, i33, c41, hv42, c47]) (by simp -implicitDefEqProofs only [go_sem, Nat.reduceEqDiff, Nat.reduceAdd, Nat.reduceLT, Nat.reduceLeDiff, Nat.reduceMul, Nat.reduceBEq, reduceIte]) (by simp -implicitDefEqProofs only [go_sem, Nat.reduceEqDiff, Nat.reduceAdd, Nat.reduceLT, Nat.reduceLeDiff, Nat.reduceMul, Nat.reduceBEq, reduceIte, he0, le0, qe0, pe0, gi22, ko12, i22, c24, gi33, ko35, i33, c41, hv42, c47]) (by simp -implicitDefEqProofs only [go_sem, Nat.reduceEqDiff, Nat.reduceAdd, Nat.reduceLT, Nat.reduceLeDiff, Nat.reduceMul, Nat.reduceBEq, reduceIte, he0, le0, qe0, pe0, gi22, ko12, i22, c24, gi33, ko35, i33, c41, hv42, c47]) (by simp -implicitDefEqProofs only [go_sem, Nat.reduceEqDiff, Nat.reduceAdd, Nat.reduceLT, Nat.reduceLeDiff, Nat.reduceMul, Nat.reduceBEq, reduceIte]) (by simp -implicitDefEqProofs only [go_sem, Nat.reduceEqDiff, Nat.reduceAdd, Nat.reduceLT, Nat.reduceLeDiff, Nat.reduceMul, Nat.reduceBEq, reduceIte]) ?_
              obtain ⟨_, c50, h⟩ := bs h
              replace c50 := rqs c50
              simp -implicitDefEqProofs only [go_sem, Nat.reduceEqDiff, Nat.reduceAdd, Nat.reduceLT, Nat.reduceLeDiff, Nat.reduceMul, Nat.reduceBEq, reduceIte, he0, le0, qe0, pe0, gi22, ko12, i22, c24, gi33, ko35, i33, c41, hv42, c47, c50, appG_grow (k := 64) ko35, appG_grow_p (k := 64) ko35]
              refine append_G (o := o35) (ts := [64]) (es := (v34 : List TRow).map cTRow) (xs := ([r49.1] : List TRow).map cTRow) (ho := growOK.sub ko35 (by decide)) (hG := by simp -implicitDefEqProofs only [go_sem, Nat.reduceEqDiff, Nat.reduceAdd, Nat.reduceLT, Nat.reduceLeDiff, Nat.reduceMul, Nat.reduceBEq, reduceIte, he0, le0, qe0, pe0, gi22, ko12, i22, c24, gi33, ko35, i33, c41, hv42, c47, c50]) (hj := by simp -implicitDefEqProofs only [go_sem, Nat.reduceEqDiff, Nat.reduceAdd, Nat.reduceLT, Nat.reduceLeDiff, Nat.reduceMul, Nat.reduceBEq, reduceIte]) (he := el22) (hx := by simp -implicitDefEqProofs only [go_sem, Nat.reduceEqDiff, Nat.reduceAdd, Nat.reduceLT, Nat.reduceLeDiff, Nat.reduceMul, Nat.reduceBEq, reduceIte, he0, le0, qe0, pe0, gi22, ko12, i22, c24, gi33, ko35, i33, c41, hv42, c47, c50]) (h1 := by simp -implicitDefEqProofs only [go_sem, Nat.reduceEqDiff, Nat.reduceAdd, Nat.reduceLT, Nat.reduceLeDiff, Nat.reduceMul, Nat.reduceBEq, reduceIte]) (h2 := by simp -implicitDefEqProofs only [go_sem, Nat.reduceEqDiff, Nat.reduceAdd, Nat.reduceLT, Nat.reduceLeDiff, Nat.reduceMul, Nat.reduceBEq, reduceIte]) (ha := rfl) (hra := rfl) (hb := by simpa using c50) (hbb := by decide) ?_
              intro o51 ko51
              cases h
              simp -implicitDefEqProofs only [go_sem, Nat.reduceEqDiff, Nat.reduceAdd, Nat.reduceLT, Nat.reduceLeDiff, Nat.reduceMul, Nat.reduceBEq, reduceIte, he0, le0, qe0, pe0, gi22, ko12, i22, c24, gi33, ko35, i33, c41, hv42, c47, c50, ko51]
              rw [hR46]
              refine ⟨o51, ?_⟩
              simp -implicitDefEqProofs only [go_sem, Nat.reduceEqDiff, Nat.reduceAdd, Nat.reduceLT, Nat.reduceLeDiff, Nat.reduceMul, Nat.reduceBEq, reduceIte, he0, le0, qe0, pe0, gi22, ko12, i22, c24, gi33, ko35, i33, c41, hv42, c47, c50, ko51]
            · cases h
              simp -implicitDefEqProofs only [go_sem, Nat.reduceEqDiff, Nat.reduceAdd, Nat.reduceLT, Nat.reduceLeDiff, Nat.reduceMul, Nat.reduceBEq, reduceIte, he0, le0, qe0, pe0, gi22, ko12, i22, c24, gi33, ko35, i33, c41, hv42, c47]
              rw [hR46]
              refine ⟨o35, ?_⟩
              simp -implicitDefEqProofs only [go_sem, Nat.reduceEqDiff, Nat.reduceAdd, Nat.reduceLT, Nat.reduceLeDiff, Nat.reduceMul, Nat.reduceBEq, reduceIte, he0, le0, qe0, pe0, gi22, ko12, i22, c24, gi33, ko35, i33, c41, hv42, c47]
          · replace h := h; clear hz
            rintro s i
            rw [hR46] at i
            obtain ⟨o44, gi52, ko44, i52⟩ := i
            clear hR46
            try dsimp only at h
            cases h
            simp -implicitDefEqProofs only [go_sem, Nat.reduceEqDiff, Nat.reduceAdd, Nat.reduceLT, Nat.reduceLeDiff, Nat.reduceMul, Nat.reduceBEq, reduceIte, he0, le0, qe0, pe0, gi22, ko12, i22, c24, gi33, ko35, i33, c41, hv42, gi52, ko44, i52]
            rw [hI33]
            refine ⟨o44, ?_⟩
            simp -implicitDefEqProofs only [go_sem, Nat.reduceEqDiff, Nat.reduceAdd, Nat.reduceLT, Nat.reduceLeDiff, Nat.reduceMul, Nat.reduceBEq, reduceIte, he0, le0, qe0, pe0, gi22, ko12, i22, c24, gi33, ko35, i33, c41, hv42, gi52, ko44, i52, poison_grow (d := d + 1) (ts := [14]) ko44 (by decide)]
        · cases h
          simp -implicitDefEqProofs only [go_sem, Nat.reduceEqDiff, Nat.reduceAdd, Nat.reduceLT, Nat.reduceLeDiff, Nat.reduceMul, Nat.reduceBEq, reduceIte, he0, le0, qe0, pe0, gi22, ko12, i22, c24, gi33, ko35, i33, c41]
          rw [hR33]
          first | refine ⟨rfl, o35, ?_⟩ | refine ⟨(), rfl, o35, ?_⟩
          simp -implicitDefEqProofs only [go_sem, Nat.reduceEqDiff, Nat.reduceAdd, Nat.reduceLT, Nat.reduceLeDiff, Nat.reduceMul, Nat.reduceBEq, reduceIte, he0, le0, qe0, pe0, gi22, ko12, i22, c24, gi33, ko35, i33, c41]
      · clear hL33 hI33
        intro e s hr33
        rw [hR33] at hr33
        clear hR33
        rcases z33 with ⟨v38, v40⟩
        try dsimp only at h hr33
        obtain ⟨rfl, o39, gi53, ko39, i53⟩ := hr33
        simp -implicitDefEqProofs only [go_sem, Nat.reduceEqDiff, Nat.reduceAdd, Nat.reduceLT, Nat.reduceLeDiff, Nat.reduceMul, Nat.reduceBEq, reduceIte, he0, le0, qe0, pe0, gi22, ko12, i22, c24, gi53, ko39, i53]
        obtain ⟨z64, hL64, h⟩ := bs h
        obtain ⟨I64, hI64⟩ : ∃ I : ((List TRow) × (List TBound_stage) × Int × Bool) → St → Prop, I = fun a s => match a with | (v65, v66, v68, v69) => ∃ o67, s.G = fillKey (fillKey (fillKey (fillKey (cut d G) e0 t0 [.box [.p (.bool v69)]]) (d + 1) 32 (growO o12 32 3 (v11.map cTTerm))) (d + 1) 64 (growO o39 64 4 (v38.map cTRow))) (d + 1) 87 (growO o67 87 2 (v66.map cTBound_stage)) ∧ growOK o67 [87] ∧ s.F 0 = .bp (e0, t0, 0) 0 ∧ s.F 9 = .p (.sl (r23.1.map cTTerm)) ∧ s.F 10 = .p (.sl (r23.2.1.map cii64)) ∧ s.F 12 = .p (.sl (v65.map cTRow)) ∧ s.F 15 = growV o67 (d + 1) (v66.map cTBound_stage) ∧ s.F 16 = .p (.int .i64 v68) ∧ True := ⟨_, rfl⟩
        obtain ⟨R64, hR64⟩ : ∃ R : ((List TRow) × (List TBound_stage) × Bool) → GE → St → Prop, R = fun x e s => match x with | (v70, v71, v73) => e = .exit 4 ∧ (∃ o72, s.G = fillKey (fillKey (fillKey (fillKey (cut d G) e0 t0 [.box [.p (.bool v73)]]) (d + 1) 32 (growO o12 32 3 (v11.map cTTerm))) (d + 1) 64 (growO o39 64 4 (v38.map cTRow))) (d + 1) 87 (growO o72 87 2 (v71.map cTBound_stage)) ∧ growOK o72 [87] ∧ s.F 0 = .bp (e0, t0, 0) 0 ∧ s.F 9 = .p (.sl (r23.1.map cTTerm)) ∧ s.F 10 = .p (.sl (r23.2.1.map cii64)) ∧ s.F 12 = .p (.sl (v70.map cTRow)) ∧ s.F 15 = growV o72 (d + 1) (v71.map cTBound_stage) ∧ True) := ⟨_, rfl⟩
        refine lp (ts := [17, 1000012]) rfl hL64 I64 R64 ?_ ?_ ?_
        · rw [hI64]
          refine ⟨none, ?_⟩
          simp -implicitDefEqProofs only [go_sem, Nat.reduceEqDiff, Nat.reduceAdd, Nat.reduceLT, Nat.reduceLeDiff, Nat.reduceMul, Nat.reduceBEq, reduceIte, he0, le0, qe0, pe0, gi22, ko12, i22, c24, gi53, ko39, i53, poison_grow (d := d + 1) (ts := [17, 1000012]) ko39 (by decide)]
        · clear h hL64
          rintro ⟨v65, v66, v68, v69⟩ y s h i
          rw [hI64] at i
          obtain ⟨o67, gi64, ko67, i64⟩ := i
          replace h : m_bound_engine_solve_L2 (v65, v66, v68, v69) = some y := h
          unfold m_bound_engine_solve_L2 at h
          simp -implicitDefEqProofs only [go_sem, Nat.reduceEqDiff, Nat.reduceAdd, Nat.reduceLT, Nat.reduceLeDiff, Nat.reduceMul, Nat.reduceBEq, reduceIte, he0, le0, qe0, pe0, gi22, ko12, i22, c24, gi53, ko39, i53, gi64, ko67, i64]
          obtain ⟨v74, hz, h⟩ := bs h
          obtain ⟨R75, hR75⟩ : ∃ R : St → Prop, R = fun s => s.G = fillKey (fillKey (fillKey (fillKey (cut d G) e0 t0 [.box [.p (.bool v69)]]) (d + 1) 32 (growO o12 32 3 (v11.map cTTerm))) (d + 1) 64 (growO o39 64 4 (v38.map cTRow))) (d + 1) 87 (growO o67 87 2 (v66.map cTBound_stage)) ∧ s.F 0 = .bp (e0, t0, 0) 0 ∧ s.F 9 = .p (.sl (r23.1.map cTTerm)) ∧ s.F 10 = .p (.sl (r23.2.1.map cii64)) ∧ s.F 12 = .p (.sl (v65.map cTRow)) ∧ s.F 15 = growV o67 (d + 1) (v66.map cTBound_stage) ∧ s.F 16 = .p (.int .i64 v68) ∧ s.F 74 = .p (.bool v74) ∧ True := ⟨_, rfl⟩
          refine cutR R75 ?_ ?_
          · replace h := hz
            rcases ib h with ⟨c76, h⟩ | ⟨c76, h⟩
            · cases h
              simp -implicitDefEqProofs only [go_sem, Nat.reduceEqDiff, Nat.reduceAdd, Nat.reduceLT, Nat.reduceLeDiff, Nat.reduceMul, Nat.reduceBEq, reduceIte, he0, le0, qe0, pe0, gi22, ko12, i22, c24, gi53, ko39, i53, gi64, ko67, i64, c76]
              rw [hR75]
              simp -implicitDefEqProofs only [go_sem, Nat.reduceEqDiff, Nat.reduceAdd, Nat.reduceLT, Nat.reduceLeDiff, Nat.reduceMul, Nat.reduceBEq, reduceIte, he0, le0, qe0, pe0, gi22, ko12, i22, c24, gi53, ko39, i53, gi64, ko67, i64, c76]
            · cases h
              simp -implicitDefEqProofs only [go_sem, Nat.reduceEqDiff, Nat.reduceAdd, Nat.reduceLT, Nat.reduceLeDiff, Nat.reduceMul, Nat.reduceBEq, reduceIte, he0, le0, qe0, pe0, gi22, ko12, i22, c24, gi53, ko39, i53, gi64, ko67, i64, c76]
              rw [hR75]
              simp -implicitDefEqProofs only [go_sem, Nat.reduceEqDiff, Nat.reduceAdd, Nat.reduceLT, Nat.reduceLeDiff, Nat.reduceMul, Nat.reduceBEq, reduceIte, he0, le0, qe0, pe0, gi22, ko12, i22, c24, gi53, ko39, i53, gi64, ko67, i64, c76]
          · replace h := h; clear hz
            rintro s i
            rw [hR75] at i
            obtain ⟨gi77, i77⟩ := i
            clear hR75
            try dsimp only at h
            rcases ib h with ⟨c78, h⟩ | ⟨c78, h⟩
            · obtain ⟨r79, hr79, h⟩ := bs h
              simp -implicitDefEqProofs only [go_sem, Nat.reduceEqDiff, Nat.reduceAdd, Nat.reduceLT, Nat.reduceLeDiff, Nat.reduceMul, Nat.reduceBEq, reduceIte, he0, le0, qe0, pe0, gi22, ko12, i22, c24, gi53, ko39, i53, gi64, ko67, i64, gi77, i77, c78]
              refine call_open0 (t0 := 999) (r := .tup [.agg [.p (.sl (r79.1.f0.map cTRow)), .p (.sl (r79.1.f1.map cTRow))], .p (.sl (r79.2.1.map cTRow))]) (m_bound_engine_drop_ev (⟨v69⟩ : TBound_engine) v65 v68 r79 hr79 (d + 1) _ e0 t0 (Nat.le_succ_of_le he0) (by simp -implicitDefEqProofs only [go_sem, Nat.reduceEqDiff, Nat.reduceAdd, Nat.reduceLT, Nat.reduceLeDiff, Nat.reduceMul, Nat.reduceBEq, reduceIte, he0, le0, qe0, pe0, gi22, ko12, i22, c24, gi53, ko39, i53, gi64, ko67, i64, gi77, i77, c78]) ) (by simp -implicitDefEqProofs only [go_sem, Nat.reduceEqDiff, Nat.reduceAdd, Nat.reduceLT, Nat.reduceLeDiff, Nat.reduceMul, Nat.reduceBEq, reduceIte, he0, le0, qe0, pe0, gi22, ko12, i22, c24, gi53, ko39, i53, gi64, ko67, i64, gi77, i77, c78]) rfl (by simp -implicitDefEqProofs only [go_sem, Nat.reduceEqDiff, Nat.reduceAdd, Nat.reduceLT, Nat.reduceLeDiff, Nat.reduceMul, Nat.reduceBEq, reduceIte, he0, le0, qe0, pe0, gi22, ko12, i22, c24, gi53, ko39, i53, gi64, ko67, i64, gi77, i77, c78]) (by simp -implicitDefEqProofs only [go_sem, Nat.reduceEqDiff, Nat.reduceAdd, Nat.reduceLT, Nat.reduceLeDiff, Nat.reduceMul, Nat.reduceBEq, reduceIte, he0, le0, qe0, pe0, gi22, ko12, i22, c24, gi53, ko39, i53, gi64, ko67, i64, gi77, i77, c78]) (by simp -implicitDefEqProofs only [go_sem, Nat.reduceEqDiff, Nat.reduceAdd, Nat.reduceLT, Nat.reduceLeDiff, Nat.reduceMul, Nat.reduceBEq, reduceIte]) ?_
              obtain ⟨_, c80, h⟩ := bs h
              replace c80 := rqs c80
              simp -implicitDefEqProofs only [go_sem, Nat.reduceEqDiff, Nat.reduceAdd, Nat.reduceLT, Nat.reduceLeDiff, Nat.reduceMul, Nat.reduceBEq, reduceIte, he0, le0, qe0, pe0, gi22, ko12, i22, c24, gi53, ko39, i53, gi64, ko67, i64, gi77, i77, c78, c80]
              refine append_G (o := o67) (ts := [87]) (es := (v66 : List TBound_stage).map cTBound_stage) (xs := ([r79.1] : List TBound_stage).map cTBound_stage) (ho := growOK.sub ko67 (by decide)) (hG := by simp -implicitDefEqProofs only [go_sem, Nat.reduceEqDiff, Nat.reduceAdd, Nat.reduceLT, Nat.reduceLeDiff, Nat.reduceMul, Nat.reduceBEq, reduceIte, he0, le0, qe0, pe0, gi22, ko12, i22, c24, gi53, ko39, i53, gi64, ko67, i64, gi77, i77, c78, c80]) (hj := by simp -implicitDefEqProofs only [go_sem, Nat.reduceEqDiff, Nat.reduceAdd, Nat.reduceLT, Nat.reduceLeDiff, Nat.reduceMul, Nat.reduceBEq, reduceIte]) (he := el99) (hx := by simp -implicitDefEqProofs only [go_sem, Nat.reduceEqDiff, Nat.reduceAdd, Nat.reduceLT, Nat.reduceLeDiff, Nat.reduceMul, Nat.reduceBEq, reduceIte, he0, le0, qe0, pe0, gi22, ko12, i22, c24, gi53, ko39, i53, gi64, ko67, i64, gi77, i77, c78, c80]) (h1 := by simp -implicitDefEqProofs only [go_sem, Nat.reduceEqDiff, Nat.reduceAdd, Nat.reduceLT, Nat.reduceLeDiff, Nat.reduceMul, Nat.reduceBEq, reduceIte]) (h2 := by simp -implicitDefEqProofs only [go_sem, Nat.reduceEqDiff, Nat.reduceAdd, Nat.reduceLT, Nat.reduceLeDiff, Nat.reduceMul, Nat.reduceBEq, reduceIte]) (ha := rfl) (hra := rfl) (hb := by simpa using c80) (hbb := by decide) ?_
              intro o81 ko81
              cases h
              simp -implicitDefEqProofs only [go_sem, Nat.reduceEqDiff, Nat.reduceAdd, Nat.reduceLT, Nat.reduceLeDiff, Nat.reduceMul, Nat.reduceBEq, reduceIte, he0, le0, qe0, pe0, gi22, ko12, i22, c24, gi53, ko39, i53, gi64, ko67, i64, gi77, i77, c78, c80, ko81]
              rw [hI64]
              refine ⟨o81, ?_⟩
              simp -implicitDefEqProofs only [go_sem, Nat.reduceEqDiff, Nat.reduceAdd, Nat.reduceLT, Nat.reduceLeDiff, Nat.reduceMul, Nat.reduceBEq, reduceIte, he0, le0, qe0, pe0, gi22, ko12, i22, c24, gi53, ko39, i53, gi64, ko67, i64, gi77, i77, c78, c80, ko81, poison_grow (d := d + 1) (ts := [17, 1000012]) ko81 (by decide), poison_grow (d := d + 1) (ts := [17, 1000012]) ko67 (by decide)]
            · cases h
              simp -implicitDefEqProofs only [go_sem, Nat.reduceEqDiff, Nat.reduceAdd, Nat.reduceLT, Nat.reduceLeDiff, Nat.reduceMul, Nat.reduceBEq, reduceIte, he0, le0, qe0, pe0, gi22, ko12, i22, c24, gi53, ko39, i53, gi64, ko67, i64, gi77, i77, c78]
              rw [hR64]
              first | refine ⟨rfl, o67, ?_⟩ | refine ⟨(), rfl, o67, ?_⟩
              simp -implicitDefEqProofs only [go_sem, Nat.reduceEqDiff, Nat.reduceAdd, Nat.reduceLT, Nat.reduceLeDiff, Nat.reduceMul, Nat.reduceBEq, reduceIte, he0, le0, qe0, pe0, gi22, ko12, i22, c24, gi53, ko39, i53, gi64, ko67, i64, gi77, i77, c78]
        · clear hL64 hI64
          intro e s hr64
          rw [hR64] at hr64
          clear hR64
          rcases z64 with ⟨v70, v71, v73⟩
          try dsimp only at h hr64
          obtain ⟨rfl, o72, gi82, ko72, i82⟩ := hr64
          rcases ib h with ⟨c83, h⟩ | ⟨c83, h⟩
          · cases h
            subst hQ
            simp -implicitDefEqProofs only [go_sem, Nat.reduceEqDiff, Nat.reduceAdd, Nat.reduceLT, Nat.reduceLeDiff, Nat.reduceMul, Nat.reduceBEq, reduceIte, he0, le0, qe0, pe0, gi22, ko12, i22, c24, gi53, ko39, i53, gi82, ko72, i82, c83, Try.results25]
          · obtain ⟨r84, hr84, h⟩ := bs h
            simp -implicitDefEqProofs only [go_sem, Nat.reduceEqDiff, Nat.reduceAdd, Nat.reduceLT, Nat.reduceLeDiff, Nat.reduceMul, Nat.reduceBEq, reduceIte, he0, le0, qe0, pe0, gi22, ko12, i22, c24, gi53, ko39, i53, gi82, ko72, i82, c83]
            refine call_frz (r' := .p (.bool r84)) (m_slices_ContainsFunc_api_Row_ev v70 (fun x0 => m_bound_engine_solve_1 x0) 40 [] (by simp -implicitDefEqProofs only [go_sem, Nat.reduceEqDiff, Nat.reduceAdd, Nat.reduceLT, Nat.reduceLeDiff, Nat.reduceMul, Nat.reduceBEq, reduceIte]) (fun x0 r h d => m_bound_engine_solve_1_ev x0 r h d empty) r84 hr84 (d + 1) empty) (by simp -implicitDefEqProofs only [go_sem, Nat.reduceEqDiff, Nat.reduceAdd, Nat.reduceLT, Nat.reduceLeDiff, Nat.reduceMul, Nat.reduceBEq, reduceIte, he0, le0, qe0, pe0, gi22, ko12, i22, c24, gi53, ko39, i53, gi82, ko72, i82, c83]) rfl (by simp -implicitDefEqProofs only [go_sem, Nat.reduceEqDiff, Nat.reduceAdd, Nat.reduceLT, Nat.reduceLeDiff, Nat.reduceMul, Nat.reduceBEq, reduceIte]) (by simp -implicitDefEqProofs only [go_sem, Nat.reduceEqDiff, Nat.reduceAdd, Nat.reduceLT, Nat.reduceLeDiff, Nat.reduceMul, Nat.reduceBEq, reduceIte]) ?_ rfl rfl
            rcases ib h with ⟨c85, h⟩ | ⟨c85, h⟩
            · cases h
              subst hQ
              simp -implicitDefEqProofs only [go_sem, Nat.reduceEqDiff, Nat.reduceAdd, Nat.reduceLT, Nat.reduceLeDiff, Nat.reduceMul, Nat.reduceBEq, reduceIte, he0, le0, qe0, pe0, gi22, ko12, i22, c24, gi53, ko39, i53, gi82, ko72, i82, c83, c85, Try.results25]
            · obtain ⟨r86, hr86, h⟩ := bs h
              simp -implicitDefEqProofs only [go_sem, Nat.reduceEqDiff, Nat.reduceAdd, Nat.reduceLT, Nat.reduceLeDiff, Nat.reduceMul, Nat.reduceBEq, reduceIte, he0, le0, qe0, pe0, gi22, ko12, i22, c24, gi53, ko39, i53, gi82, ko72, i82, c83, c85]
              refine call_open (r := .own (r86.1.map cTRat) 2) (r' := .tsl (r86.1.map cTRat) (d + 1, 98, 0)) (os := [.tok (r86.1.map cTRat).length 2]) (m_bound_engine_witness_ev (⟨v73⟩ : TBound_engine) v71 r23.1 r23.2.1 r86 hr86 (d + 1) _ e0 t0 (Nat.le_succ_of_le he0) (by simp -implicitDefEqProofs only [go_sem, Nat.reduceEqDiff, Nat.reduceAdd, Nat.reduceLT, Nat.reduceLeDiff, Nat.reduceMul, Nat.reduceBEq, reduceIte, he0, le0, qe0, pe0, gi22, ko12, i22, c24, gi53, ko39, i53, gi82, ko72, i82, c83, c85]) ) (by simp -implicitDefEqProofs only [go_sem, Nat.reduceEqDiff, Nat.reduceAdd, Nat.reduceLT, Nat.reduceLeDiff, Nat.reduceMul, Nat.reduceBEq, reduceIte, he0, le0, qe0, pe0, gi22, ko12, i22, c24, gi53, ko39, i53, gi82, ko72, i82, c83, c85]) rfl (by simp -implicitDefEqProofs only [go_sem, Nat.reduceEqDiff, Nat.reduceAdd, Nat.reduceLT, Nat.reduceLeDiff, Nat.reduceMul, Nat.reduceBEq, reduceIte, he0, le0, qe0, pe0, gi22, ko12, i22, c24, gi53, ko39, i53, gi82, ko72, i82, c83, c85]) (by simp -implicitDefEqProofs only [go_sem, Nat.reduceEqDiff, Nat.reduceAdd, Nat.reduceLT, Nat.reduceLeDiff, Nat.reduceMul, Nat.reduceBEq, reduceIte, he0, le0, qe0, pe0, gi22, ko12, i22, c24, gi53, ko39, i53, gi82, ko72, i82, c83, c85]) (by simp -implicitDefEqProofs only [go_sem, Nat.reduceEqDiff, Nat.reduceAdd, Nat.reduceLT, Nat.reduceLeDiff, Nat.reduceMul, Nat.reduceBEq, reduceIte]) ?_
              rcases ib h with ⟨c87, h⟩ | ⟨c87, h⟩
              · cases h
                subst hQ
                simp -implicitDefEqProofs only [go_sem, Nat.reduceEqDiff, Nat.reduceAdd, Nat.reduceLT, Nat.reduceLeDiff, Nat.reduceMul, Nat.reduceBEq, reduceIte, he0, le0, qe0, pe0, gi22, ko12, i22, c24, gi53, ko39, i53, gi82, ko72, i82, c83, c85, c87, Try.results25]
              · cases h
                subst hQ
                simp -implicitDefEqProofs only [go_sem, Nat.reduceEqDiff, Nat.reduceAdd, Nat.reduceLT, Nat.reduceLeDiff, Nat.reduceMul, Nat.reduceBEq, reduceIte, he0, le0, qe0, pe0, gi22, ko12, i22, c24, gi53, ko39, i53, gi82, ko72, i82, c83, c85, c87, Try.results25]
theorem m_bound_Solve_1_ev (a0 : TRow) (r0 : Bool) (h : m_bound_Solve_1 a0 = some r0) (d : Nat) (G : Heap) : Tel Try.prog TB d 23 [.agg ((cTRow a0).map .p)] G (.p (.bool r0)) (G) := by
  unfold m_bound_Solve_1 at h
  refine Tel.intro mix Try.func23 rfl (Nat.le_of_ble_eq_true rfl) {frzAt := fun t => t == 1 || t == 4} (by kernel_rfl) (by kernel_rfl) ?_
  generalize hQ : callPost _ _ _ _ _ = Q
  obtain ⟨r1, hr1, h⟩ := bs h
  simp -implicitDefEqProofs only [go_sem, Nat.reduceEqDiff, Nat.reduceAdd, Nat.reduceLT, Nat.reduceLeDiff, Nat.reduceMul, Nat.reduceBEq, reduceIte]
  refine call_frz (r' := .p (.bool r1)) (m_bound_right_ev a0 r1 hr1 (d + 1) empty) (by simp -implicitDefEqProofs only [go_sem, Nat.reduceEqDiff, Nat.reduceAdd, Nat.reduceLT, Nat.reduceLeDiff, Nat.reduceMul, Nat.reduceBEq, reduceIte]) rfl (by simp -implicitDefEqProofs only [go_sem, Nat.reduceEqDiff, Nat.reduceAdd, Nat.reduceLT, Nat.reduceLeDiff, Nat.reduceMul, Nat.reduceBEq, reduceIte]) (by simp -implicitDefEqProofs only [go_sem, Nat.reduceEqDiff, Nat.reduceAdd, Nat.reduceLT, Nat.reduceLeDiff, Nat.reduceMul, Nat.reduceBEq, reduceIte]) ?_ rfl rfl
  cases h
  subst hQ
  simp -implicitDefEqProofs only [go_sem, Nat.reduceEqDiff, Nat.reduceAdd, Nat.reduceLT, Nat.reduceLeDiff, Nat.reduceMul, Nat.reduceBEq, reduceIte, Try.results23]
theorem m_bound_Solve_ev (a0 : List TRow) (r0 : (List TRat) × Int) (h : m_bound_Solve a0 = some r0) (d : Nat) (G : Heap) : Tel Try.prog TB d 13 [.p (.sl (a0.map cTRow))] G (.tup [.p (.sl (r0.1.map cTRat)), .p (.int .i64 r0.2)]) (G) := by
  unfold m_bound_Solve at h
  refine Tel.intro mix Try.func13 rfl (Nat.le_of_ble_eq_true rfl) {openAt := fun t => t == 14, frzAt := fun t => t == 9} (by kernel_rfl) (by kernel_rfl) ?_
  generalize hQ : callPost _ _ _ _ _ = Q
  simp -implicitDefEqProofs only [go_sem, Nat.reduceEqDiff, Nat.reduceAdd, Nat.reduceLT, Nat.reduceLeDiff, Nat.reduceMul, Nat.reduceBEq, reduceIte]
  obtain ⟨v1, hz, h⟩ := bs h
  obtain ⟨R2, hR2⟩ : ∃ R : St → Prop, R = fun s => s.G = cut d G ∧ s.F 0 = .p (.sl (a0.map cTRow)) ∧ s.F 10 = .p (.bool v1) ∧ True := ⟨_, rfl⟩
  refine cutR R2 ?_ ?_
  · replace h := hz
    rcases ib h with ⟨c3, h⟩ | ⟨c3, h⟩
    · cases h
      simp -implicitDefEqProofs only [go_sem, Nat.reduceEqDiff, Nat.reduceAdd, Nat.reduceLT, Nat.reduceLeDiff, Nat.reduceMul, Nat.reduceBEq, reduceIte, c3]
      rw [hR2]
      simp -implicitDefEqProofs only [go_sem, Nat.reduceEqDiff, Nat.reduceAdd, Nat.reduceLT, Nat.reduceLeDiff, Nat.reduceMul, Nat.reduceBEq, reduceIte, c3]
    · obtain ⟨r4, hr4, h⟩ := bs h
      simp -implicitDefEqProofs only [go_sem, Nat.reduceEqDiff, Nat.reduceAdd, Nat.reduceLT, Nat.reduceLeDiff, Nat.reduceMul, Nat.reduceBEq, reduceIte, c3]
      refine call_frz (r' := .p (.bool r4)) (m_slices_ContainsFunc_api_Row_ev a0 (fun x0 => m_bound_Solve_1 x0) 23 [] (by simp -implicitDefEqProofs only [go_sem, Nat.reduceEqDiff, Nat.reduceAdd, Nat.reduceLT, Nat.reduceLeDiff, Nat.reduceMul, Nat.reduceBEq, reduceIte]) (fun x0 r h d => m_bound_Solve_1_ev x0 r h d empty) r4 hr4 (d + 1) empty) (by simp -implicitDefEqProofs only [go_sem, Nat.reduceEqDiff, Nat.reduceAdd, Nat.reduceLT, Nat.reduceLeDiff, Nat.reduceMul, Nat.reduceBEq, reduceIte, c3]) rfl (by simp -implicitDefEqProofs only [go_sem, Nat.reduceEqDiff, Nat.reduceAdd, Nat.reduceLT, Nat.reduceLeDiff, Nat.reduceMul, Nat.reduceBEq, reduceIte]) (by simp -implicitDefEqProofs only [go_sem, Nat.reduceEqDiff, Nat.reduceAdd, Nat.reduceLT, Nat.reduceLeDiff, Nat.reduceMul, Nat.reduceBEq, reduceIte]) ?_ rfl rfl
      cases h
      simp -implicitDefEqProofs only [go_sem, Nat.reduceEqDiff, Nat.reduceAdd, Nat.reduceLT, Nat.reduceLeDiff, Nat.reduceMul, Nat.reduceBEq, reduceIte, c3]
      rw [hR2]
      simp -implicitDefEqProofs only [go_sem, Nat.reduceEqDiff, Nat.reduceAdd, Nat.reduceLT, Nat.reduceLeDiff, Nat.reduceMul, Nat.reduceBEq, reduceIte, c3]
  · replace h := h; clear hz
    rintro s i
    rw [hR2] at i
    obtain ⟨gi5, i5⟩ := i
    clear hR2
    try dsimp only at h
    rcases ib h with ⟨c6, h⟩ | ⟨c6, h⟩
    · cases h
      subst hQ
      simp -implicitDefEqProofs only [go_sem, Nat.reduceEqDiff, Nat.reduceAdd, Nat.reduceLT, Nat.reduceLeDiff, Nat.reduceMul, Nat.reduceBEq, reduceIte, gi5, i5, c6, Try.results13]
    · obtain ⟨r7, hr7, h⟩ := bs h
      simp -implicitDefEqProofs only [go_sem, Nat.reduceEqDiff, Nat.reduceAdd, Nat.reduceLT, Nat.reduceLeDiff, Nat.reduceMul, Nat.reduceBEq, reduceIte, gi5, i5, c6]
      refine call_open0 (t0 := 999) (r := .tup [.p (.sl (r7.1.map cTRat)), .p (.int .i64 r7.2.1)]) (m_bound_engine_solve_ev (⟨false⟩ : TBound_engine) a0 r7 hr7 (d + 1) _ (d + 1) 12 (Nat.le_refl _) (by simp -implicitDefEqProofs only [go_sem, Nat.reduceEqDiff, Nat.reduceAdd, Nat.reduceLT, Nat.reduceLeDiff, Nat.reduceMul, Nat.reduceBEq, reduceIte, gi5, i5, c6]) ) (by simp -implicitDefEqProofs only [go_sem, Nat.reduceEqDiff, Nat.reduceAdd, Nat.reduceLT, Nat.reduceLeDiff, Nat.reduceMul, Nat.reduceBEq, reduceIte, gi5, i5, c6]) rfl (by simp -implicitDefEqProofs only [go_sem, Nat.reduceEqDiff, Nat.reduceAdd, Nat.reduceLT, Nat.reduceLeDiff, Nat.reduceMul, Nat.reduceBEq, reduceIte, gi5, i5, c6]) (by simp -implicitDefEqProofs only [go_sem, Nat.reduceEqDiff, Nat.reduceAdd, Nat.reduceLT, Nat.reduceLeDiff, Nat.reduceMul, Nat.reduceBEq, reduceIte, gi5, i5, c6]) (by simp -implicitDefEqProofs only [go_sem, Nat.reduceEqDiff, Nat.reduceAdd, Nat.reduceLT, Nat.reduceLeDiff, Nat.reduceMul, Nat.reduceBEq, reduceIte]) ?_
      cases h
      subst hQ
      simp -implicitDefEqProofs only [go_sem, Nat.reduceEqDiff, Nat.reduceAdd, Nat.reduceLT, Nat.reduceLeDiff, Nat.reduceMul, Nat.reduceBEq, reduceIte, gi5, i5, c6, Try.results13]
theorem m_bound_Holds_ev (a0 : List TRow) (a1 : List TRat) (r0 : Bool) (h : m_bound_Holds a0 a1 = some r0) (d : Nat) (G : Heap) : Tel Try.prog TB d 21 [.p (.sl (a0.map cTRow)), .p (.sl (a1.map cTRat))] G (.p (.bool r0)) (G) := by
  unfold m_bound_Holds at h
  refine Tel.intro mix Try.func21 rfl (Nat.le_of_ble_eq_true rfl) {frzAt := fun t => t == 19 || t == 23, clean := fun r => if r = 2 then [6, 7] else []} (by kernel_rfl) (by kernel_rfl) ?_
  generalize hQ : callPost _ _ _ _ _ = Q
  simp -implicitDefEqProofs only [go_sem, Nat.reduceEqDiff, Nat.reduceAdd, Nat.reduceLT, Nat.reduceLeDiff, Nat.reduceMul, Nat.reduceBEq, reduceIte]
  obtain ⟨z3, hL3, h⟩ := bs h
  obtain ⟨I3, hI3⟩ : ∃ I : Int → St → Prop, I = fun v4 s => s.G = cut d G ∧ s.F 1 = .p (.sl (a1.map cTRat)) ∧ s.F 9 = .p (.sl (a0.map cTRow)) ∧ s.F 10 = .p (.int .i64 (a0.length : Int)) ∧ s.F 11 = .p (.int .i64 v4) ∧ True := ⟨_, rfl⟩
  obtain ⟨R3, hR3⟩ : ∃ R : ((Unit) ⊕ (Bool)) → GE → St → Prop, R = fun x e s => match x with | .inl _ => e = .exit 0 ∧ s.G = cut d G ∧ True | .inr r => e = .ret ∧ (r = r0 → Q .ret s) := ⟨_, rfl⟩
  refine lp (ts := [6, 7]) rfl hL3 I3 R3 ?_ ?_ ?_
  · rw [hI3]
    simp -implicitDefEqProofs only [go_sem, Nat.reduceEqDiff, Nat.reduceAdd, Nat.reduceLT, Nat.reduceLeDiff, Nat.reduceMul, Nat.reduceBEq, reduceIte]
  · clear h hL3
    rintro v4 y s h i
    rw [hI3] at i
    obtain ⟨gi3, i3⟩ := i
    replace h : m_bound_Holds_L0 a0 a1 (v4) = some y := h
    unfold m_bound_Holds_L0 at h
    rcases ib h with ⟨c5, h⟩ | ⟨c5, h⟩
    · obtain ⟨v6, hv6, h⟩ := bs h
      replace hv6 := gis hv6
      obtain ⟨r7, hr7, h⟩ := bs h
      simp -implicitDefEqProofs only [go_sem, Nat.reduceEqDiff, Nat.reduceAdd, Nat.reduceLT, Nat.reduceLeDiff, Nat.reduceMul, Nat.reduceBEq, reduceIte, gi3, i3, c5, hv6]
      refine call_frz (r' := .tup [.agg [.p (.int .i64 r7.1.f0), .p (.int .i64 r7.1.f1)], .p (.int .i64 r7.2)]) (m_term_Value_ev v6.f1 a1 r7 hr7 (d + 1) empty) (by simp -implicitDefEqProofs only [go_sem, Nat.reduceEqDiff, Nat.reduceAdd, Nat.reduceLT, Nat.reduceLeDiff, Nat.reduceMul, Nat.reduceBEq, reduceIte, gi3, i3, c5, hv6]) rfl (by simp -implicitDefEqProofs only [go_sem, Nat.reduceEqDiff, Nat.reduceAdd, Nat.reduceLT, Nat.reduceLeDiff, Nat.reduceMul, Nat.reduceBEq, reduceIte]) (by simp -implicitDefEqProofs only [go_sem, Nat.reduceEqDiff, Nat.reduceAdd, Nat.reduceLT, Nat.reduceLeDiff, Nat.reduceMul, Nat.reduceBEq, reduceIte]) ?_ rfl rfl
      obtain ⟨r8, hr8, h⟩ := bs h
      simp -implicitDefEqProofs only [go_sem, Nat.reduceEqDiff, Nat.reduceAdd, Nat.reduceLT, Nat.reduceLeDiff, Nat.reduceMul, Nat.reduceBEq, reduceIte, gi3, i3, c5, hv6]
      refine call_frz (r' := .p (.bool r8)) (m_bound_right_ev v6 r8 hr8 (d + 1) empty) (by simp -implicitDefEqProofs only [go_sem, Nat.reduceEqDiff, Nat.reduceAdd, Nat.reduceLT, Nat.reduceLeDiff, Nat.reduceMul, Nat.reduceBEq, reduceIte, gi3, i3, c5, hv6]) rfl (by simp -implicitDefEqProofs only [go_sem, Nat.reduceEqDiff, Nat.reduceAdd, Nat.reduceLT, Nat.reduceLeDiff, Nat.reduceMul, Nat.reduceBEq, reduceIte]) (by simp -implicitDefEqProofs only [go_sem, Nat.reduceEqDiff, Nat.reduceAdd, Nat.reduceLT, Nat.reduceLeDiff, Nat.reduceMul, Nat.reduceBEq, reduceIte]) ?_ rfl rfl
      simp -implicitDefEqProofs only [go_sem, Nat.reduceEqDiff, Nat.reduceAdd, Nat.reduceLT, Nat.reduceLeDiff, Nat.reduceMul, Nat.reduceBEq, reduceIte, gi3, i3, c5, hv6]
      obtain ⟨v9, hz, h⟩ := bs h
      obtain ⟨R10, hR10⟩ : ∃ R : St → Prop, R = fun s => s.G = fillKey (fillKey (cut d G) (d + 1) 6 [.box [.p (.int .i64 v6.f0), .p (.sl (v6.f1.f0.map cTRat)), .p (.int .i64 v6.f1.f1.f0), .p (.int .i64 v6.f1.f1.f1)]]) (d + 1) 7 [.box [.p (.int .i64 r7.1.f0), .p (.int .i64 r7.1.f1)]] ∧ s.F 1 = .p (.sl (a1.map cTRat)) ∧ s.F 9 = .p (.sl (a0.map cTRow)) ∧ s.F 10 = .p (.int .i64 (a0.length : Int)) ∧ s.F 11 = .p (.int .i64 v4) ∧ s.F 53 = .p (.bool v9) ∧ True := ⟨_, rfl⟩
      refine cutR R10 ?_ ?_
      · replace h := hz
        rcases ib h with ⟨c11, h⟩ | ⟨c11, h⟩
        · cases h
          simp -implicitDefEqProofs only [go_sem, Nat.reduceEqDiff, Nat.reduceAdd, Nat.reduceLT, Nat.reduceLeDiff, Nat.reduceMul, Nat.reduceBEq, reduceIte, gi3, i3, c5, hv6, c11]
          rw [hR10]
          simp -implicitDefEqProofs only [go_sem, Nat.reduceEqDiff, Nat.reduceAdd, Nat.reduceLT, Nat.reduceLeDiff, Nat.reduceMul, Nat.reduceBEq, reduceIte, gi3, i3, c5, hv6, c11]
        · rcases ib h with ⟨c12, h⟩ | ⟨c12, h⟩
          · cases h
            simp -implicitDefEqProofs only [go_sem, Nat.reduceEqDiff, Nat.reduceAdd, Nat.reduceLT, Nat.reduceLeDiff, Nat.reduceMul, Nat.reduceBEq, reduceIte, gi3, i3, c5, hv6, c11, c12]
            rw [hR10]
            simp -implicitDefEqProofs only [go_sem, Nat.reduceEqDiff, Nat.reduceAdd, Nat.reduceLT, Nat.reduceLeDiff, Nat.reduceMul, Nat.reduceBEq, reduceIte, gi3, i3, c5, hv6, c11, c12]
          · rcases ib h with ⟨c13, h⟩ | ⟨c13, h⟩
            · cases h
              simp -implicitDefEqProofs only [go_sem, Nat.reduceEqDiff, Nat.reduceAdd, Nat.reduceLT, Nat.reduceLeDiff, Nat.reduceMul, Nat.reduceBEq, reduceIte, gi3, i3, c5, hv6, c11, c12, c13]
              rw [hR10]
              simp -implicitDefEqProofs only [go_sem, Nat.reduceEqDiff, Nat.reduceAdd, Nat.reduceLT, Nat.reduceLeDiff, Nat.reduceMul, Nat.reduceBEq, reduceIte, gi3, i3, c5, hv6, c11, c12, c13]
            · rcases ib h with ⟨c14, h⟩ | ⟨c14, h⟩
              · rcases ib h with ⟨c15, h⟩ | ⟨c15, h⟩
                · cases h
                  simp -implicitDefEqProofs only [go_sem, Nat.reduceEqDiff, Nat.reduceAdd, Nat.reduceLT, Nat.reduceLeDiff, Nat.reduceMul, Nat.reduceBEq, reduceIte, gi3, i3, c5, hv6, c11, c12, c13, c14, c15]
                  rw [hR10]
                  simp -implicitDefEqProofs only [go_sem, Nat.reduceEqDiff, Nat.reduceAdd, Nat.reduceLT, Nat.reduceLeDiff, Nat.reduceMul, Nat.reduceBEq, reduceIte, gi3, i3, c5, hv6, c11, c12, c13, c14, c15]
                · rcases ib h with ⟨c16, h⟩ | ⟨c16, h⟩
                  · cases h
                    simp -implicitDefEqProofs only [go_sem, Nat.reduceEqDiff, Nat.reduceAdd, Nat.reduceLT, Nat.reduceLeDiff, Nat.reduceMul, Nat.reduceBEq, reduceIte, gi3, i3, c5, hv6, c11, c12, c13, c14, c15, c16]
                    rw [hR10]
                    simp -implicitDefEqProofs only [go_sem, Nat.reduceEqDiff, Nat.reduceAdd, Nat.reduceLT, Nat.reduceLeDiff, Nat.reduceMul, Nat.reduceBEq, reduceIte, gi3, i3, c5, hv6, c11, c12, c13, c14, c15, c16]
                  · cases h
                    simp -implicitDefEqProofs only [go_sem, Nat.reduceEqDiff, Nat.reduceAdd, Nat.reduceLT, Nat.reduceLeDiff, Nat.reduceMul, Nat.reduceBEq, reduceIte, gi3, i3, c5, hv6, c11, c12, c13, c14, c15, c16]
                    rw [hR10]
                    simp -implicitDefEqProofs only [go_sem, Nat.reduceEqDiff, Nat.reduceAdd, Nat.reduceLT, Nat.reduceLeDiff, Nat.reduceMul, Nat.reduceBEq, reduceIte, gi3, i3, c5, hv6, c11, c12, c13, c14, c15, c16]
              · rcases ib h with ⟨c17, h⟩ | ⟨c17, h⟩
                · cases h
                  simp -implicitDefEqProofs only [go_sem, Nat.reduceEqDiff, Nat.reduceAdd, Nat.reduceLT, Nat.reduceLeDiff, Nat.reduceMul, Nat.reduceBEq, reduceIte, gi3, i3, c5, hv6, c11, c12, c13, c14, c17]
                  rw [hR10]
                  simp -implicitDefEqProofs only [go_sem, Nat.reduceEqDiff, Nat.reduceAdd, Nat.reduceLT, Nat.reduceLeDiff, Nat.reduceMul, Nat.reduceBEq, reduceIte, gi3, i3, c5, hv6, c11, c12, c13, c14, c17]
                · cases h
                  simp -implicitDefEqProofs only [go_sem, Nat.reduceEqDiff, Nat.reduceAdd, Nat.reduceLT, Nat.reduceLeDiff, Nat.reduceMul, Nat.reduceBEq, reduceIte, gi3, i3, c5, hv6, c11, c12, c13, c14, c17]
                  rw [hR10]
                  simp -implicitDefEqProofs only [go_sem, Nat.reduceEqDiff, Nat.reduceAdd, Nat.reduceLT, Nat.reduceLeDiff, Nat.reduceMul, Nat.reduceBEq, reduceIte, gi3, i3, c5, hv6, c11, c12, c13, c14, c17]
      · replace h := h; clear hz
        rintro s i
        rw [hR10] at i
        obtain ⟨gi18, i18⟩ := i
        clear hR10
        try dsimp only at h
        rcases ib h with ⟨c19, h⟩ | ⟨c19, h⟩
        · cases h
          simp -implicitDefEqProofs only [go_sem, Nat.reduceEqDiff, Nat.reduceAdd, Nat.reduceLT, Nat.reduceLeDiff, Nat.reduceMul, Nat.reduceBEq, reduceIte, gi3, i3, c5, hv6, gi18, i18, c19]
          rw [hR3]
          refine ⟨rfl, ?_⟩
          intro hr
          subst hr
          subst hQ
          simp -implicitDefEqProofs only [go_sem, Nat.reduceEqDiff, Nat.reduceAdd, Nat.reduceLT, Nat.reduceLeDiff, Nat.reduceMul, Nat.reduceBEq, reduceIte, gi3, i3, c5, hv6, gi18, i18, c19, Try.results21]
        · cases h
          simp -implicitDefEqProofs only [go_sem, Nat.reduceEqDiff, Nat.reduceAdd, Nat.reduceLT, Nat.reduceLeDiff, Nat.reduceMul, Nat.reduceBEq, reduceIte, gi3, i3, c5, hv6, gi18, i18, c19]
          rw [hI3]
          simp -implicitDefEqProofs only [go_sem, Nat.reduceEqDiff, Nat.reduceAdd, Nat.reduceLT, Nat.reduceLeDiff, Nat.reduceMul, Nat.reduceBEq, reduceIte, gi3, i3, c5, hv6, gi18, i18, c19]
    · cases h
      simp -implicitDefEqProofs only [go_sem, Nat.reduceEqDiff, Nat.reduceAdd, Nat.reduceLT, Nat.reduceLeDiff, Nat.reduceMul, Nat.reduceBEq, reduceIte, gi3, i3, c5]
      rw [hR3]
      first | refine ⟨rfl, ?_⟩ | refine ⟨(), rfl, ?_⟩
      simp -implicitDefEqProofs only [go_sem, Nat.reduceEqDiff, Nat.reduceAdd, Nat.reduceLT, Nat.reduceLeDiff, Nat.reduceMul, Nat.reduceBEq, reduceIte, gi3, i3, c5]
  · clear hL3 hI3
    intro e s hr3
    rw [hR3] at hr3
    clear hR3
    rcases z3 with _ | r
    · try dsimp only at h hr3
      obtain ⟨rfl, gi20, i20⟩ := hr3
      cases h
      subst hQ
      simp -implicitDefEqProofs only [go_sem, Nat.reduceEqDiff, Nat.reduceAdd, Nat.reduceLT, Nat.reduceLeDiff, Nat.reduceMul, Nat.reduceBEq, reduceIte, gi20, i20, Try.results21]
    · try dsimp only at h hr3
      obtain ⟨rfl, hr3⟩ := hr3
      cases h
      try simp -implicitDefEqProofs only [go_sem, Nat.reduceEqDiff, Nat.reduceAdd, Nat.reduceLT, Nat.reduceLeDiff, Nat.reduceMul, Nat.reduceBEq, reduceIte]
      exact hr3 rfl
theorem m_bound_never_ev (a0 : List TRow) (a1 : TTerm) (a2 : Int) (r0 : Int) (h : m_bound_never a0 a1 a2 = some r0) (d : Nat) (G : Heap) : Tel Try.prog TB d 28 [.p (.sl (a0.map cTRow)), .agg ((cTTerm a1).map .p), .p (.int .i64 a2)] G (.p (.int .i64 r0)) (G) := by
  unfold m_bound_never at h
  refine Tel.intro mix Try.func28 rfl (Nat.le_of_ble_eq_true rfl) {frzAt := fun t => t == 4 || t == 14 || t == 27, boxAt := fun t => if t = 7 then some 7 else if t = 1000026 then some 21 else none} (by kernel_rfl) (by kernel_rfl) ?_
  generalize hQ : callPost _ _ _ _ _ = Q
  obtain ⟨r1, hr1, h⟩ := bs h
  simp -implicitDefEqProofs only [go_sem, Nat.reduceEqDiff, Nat.reduceAdd, Nat.reduceLT, Nat.reduceLeDiff, Nat.reduceMul, Nat.reduceBEq, reduceIte]
  refine call_frz (r' := .tup [.agg [.p (.sl (r1.1.f0.map cTRat)), .p (.int .i64 r1.1.f1.f0), .p (.int .i64 r1.1.f1.f1)], .p (.int .i64 r1.2)]) (m_term_Scale_ev a1 (⟨-1, 1⟩ : TRat) r1 hr1 (d + 1) empty) (by simp -implicitDefEqProofs only [go_sem, Nat.reduceEqDiff, Nat.reduceAdd, Nat.reduceLT, Nat.reduceLeDiff, Nat.reduceMul, Nat.reduceBEq, reduceIte]) rfl (by simp -implicitDefEqProofs only [go_sem, Nat.reduceEqDiff, Nat.reduceAdd, Nat.reduceLT, Nat.reduceLeDiff, Nat.reduceMul, Nat.reduceBEq, reduceIte]) (by simp -implicitDefEqProofs only [go_sem, Nat.reduceEqDiff, Nat.reduceAdd, Nat.reduceLT, Nat.reduceLeDiff, Nat.reduceMul, Nat.reduceBEq, reduceIte]) ?_ rfl rfl
  rcases ib h with ⟨c2, h⟩ | ⟨c2, h⟩
  · cases h
    subst hQ
    simp -implicitDefEqProofs only [go_sem, Nat.reduceEqDiff, Nat.reduceAdd, Nat.reduceLT, Nat.reduceLeDiff, Nat.reduceMul, Nat.reduceBEq, reduceIte, c2, Try.results28]
  · obtain ⟨r3, hr3, h⟩ := bs h
    simp -implicitDefEqProofs only [go_sem, Nat.reduceEqDiff, Nat.reduceAdd, Nat.reduceLT, Nat.reduceLeDiff, Nat.reduceMul, Nat.reduceBEq, reduceIte, c2]
    refine call_clo (sz := 4) (m_slices_Clone_api_Row_cl a0 r3 hr3 (d + 1) empty) (by simp -implicitDefEqProofs only [go_sem, Nat.reduceEqDiff, Nat.reduceAdd, Nat.reduceLT, Nat.reduceLeDiff, Nat.reduceMul, Nat.reduceBEq, reduceIte, c2]) rfl (by simp -implicitDefEqProofs only [go_sem, Nat.reduceEqDiff, Nat.reduceAdd, Nat.reduceLT, Nat.reduceLeDiff, Nat.reduceMul, Nat.reduceBEq, reduceIte]) (by simp -implicitDefEqProofs only [go_sem, Nat.reduceEqDiff, Nat.reduceAdd, Nat.reduceLT, Nat.reduceLeDiff, Nat.reduceMul, Nat.reduceBEq, reduceIte, c2]) ?_
    intro o4 ko4
    obtain ⟨_, c5, h⟩ := bs h
    replace c5 := rqs c5
    simp -implicitDefEqProofs only [go_sem, Nat.reduceEqDiff, Nat.reduceAdd, Nat.reduceLT, Nat.reduceLeDiff, Nat.reduceMul, Nat.reduceBEq, reduceIte, c2, ko4, c5, appG_grow (k := 21) ko4, appG_grow_p (k := 21) ko4]
    refine append_G (o := o4) (ts := [21, 26]) (es := (r3 : List TRow).map cTRow) (xs := ([(⟨a2, r1.1⟩ : TRow)] : List TRow).map cTRow) (ho := growOK.sub ko4 (by decide)) (hG := by simp -implicitDefEqProofs only [go_sem, Nat.reduceEqDiff, Nat.reduceAdd, Nat.reduceLT, Nat.reduceLeDiff, Nat.reduceMul, Nat.reduceBEq, reduceIte, c2, ko4, c5, growO_out (t := 26) ko4 (by decide)]) (hj := by simp -implicitDefEqProofs only [go_sem, Nat.reduceEqDiff, Nat.reduceAdd, Nat.reduceLT, Nat.reduceLeDiff, Nat.reduceMul, Nat.reduceBEq, reduceIte]) (he := el22) (hx := by simp -implicitDefEqProofs only [go_sem, Nat.reduceEqDiff, Nat.reduceAdd, Nat.reduceLT, Nat.reduceLeDiff, Nat.reduceMul, Nat.reduceBEq, reduceIte, c2, ko4, c5]) (h1 := by simp -implicitDefEqProofs only [go_sem, Nat.reduceEqDiff, Nat.reduceAdd, Nat.reduceLT, Nat.reduceLeDiff, Nat.reduceMul, Nat.reduceBEq, reduceIte]) (h2 := by simp -implicitDefEqProofs only [go_sem, Nat.reduceEqDiff, Nat.reduceAdd, Nat.reduceLT, Nat.reduceLeDiff, Nat.reduceMul, Nat.reduceBEq, reduceIte]) (ha := rfl) (hra := rfl) (hb := by simpa using c5) (hbb := by decide) ?_
    intro o6 ko6
    obtain ⟨r7, hr7, h⟩ := bs h
    simp -implicitDefEqProofs only [go_sem, Nat.reduceEqDiff, Nat.reduceAdd, Nat.reduceLT, Nat.reduceLeDiff, Nat.reduceMul, Nat.reduceBEq, reduceIte, c2, ko4, c5, ko6]
    refine call_frz (r' := .tup [.p (.sl (r7.1.map cTRat)), .p (.int .i64 r7.2)]) (m_bound_Solve_ev (r3 ++ ([(⟨a2, r1.1⟩ : TRow)])) r7 hr7 (d + 1) empty) (by simp -implicitDefEqProofs only [go_sem, Nat.reduceEqDiff, Nat.reduceAdd, Nat.reduceLT, Nat.reduceLeDiff, Nat.reduceMul, Nat.reduceBEq, reduceIte, c2, ko4, c5, ko6]) rfl (by simp -implicitDefEqProofs only [go_sem, Nat.reduceEqDiff, Nat.reduceAdd, Nat.reduceLT, Nat.reduceLeDiff, Nat.reduceMul, Nat.reduceBEq, reduceIte]) (by simp -implicitDefEqProofs only [go_sem, Nat.reduceEqDiff, Nat.reduceAdd, Nat.reduceLT, Nat.reduceLeDiff, Nat.reduceMul, Nat.reduceBEq, reduceIte]) ?_ rfl rfl
    rcases ib h with ⟨c8, h⟩ | ⟨c8, h⟩
    · cases h
      subst hQ
      simp -implicitDefEqProofs only [go_sem, Nat.reduceEqDiff, Nat.reduceAdd, Nat.reduceLT, Nat.reduceLeDiff, Nat.reduceMul, Nat.reduceBEq, reduceIte, c2, ko4, c5, ko6, c8, Try.results28]
    · rcases ib h with ⟨c9, h⟩ | ⟨c9, h⟩
      · cases h
        subst hQ
        simp -implicitDefEqProofs only [go_sem, Nat.reduceEqDiff, Nat.reduceAdd, Nat.reduceLT, Nat.reduceLeDiff, Nat.reduceMul, Nat.reduceBEq, reduceIte, c2, ko4, c5, ko6, c8, c9, Try.results28]
      · cases h
        subst hQ
        simp -implicitDefEqProofs only [go_sem, Nat.reduceEqDiff, Nat.reduceAdd, Nat.reduceLT, Nat.reduceLeDiff, Nat.reduceMul, Nat.reduceBEq, reduceIte, c2, ko4, c5, ko6, c8, c9, Try.results28]
theorem m_bound_Entails_ev (a0 : List TRow) (a1 : TRow) (r0 : Int) (h : m_bound_Entails a0 a1 = some r0) (d : Nat) (G : Heap) : Tel Try.prog TB d 15 [.p (.sl (a0.map cTRow)), .agg ((cTRow a1).map .p)] G (.p (.int .i64 r0)) (G) := by
  unfold m_bound_Entails at h
  refine Tel.intro mix Try.func15 rfl (Nat.le_of_ble_eq_true rfl) {frzAt := fun t => t == 3 || t == 15 || t == 21 || t == 27 || t == 35 || t == 42} (by kernel_rfl) (by kernel_rfl) ?_
  generalize hQ : callPost _ _ _ _ _ = Q
  rcases ib h with ⟨c1, h⟩ | ⟨c1, h⟩
  · obtain ⟨r2, hr2, h⟩ := bs h
    simp -implicitDefEqProofs only [go_sem, Nat.reduceEqDiff, Nat.reduceAdd, Nat.reduceLT, Nat.reduceLeDiff, Nat.reduceMul, Nat.reduceBEq, reduceIte, c1]
    refine call_frz (r' := .p (.int .i64 r2)) (m_bound_never_ev a0 a1.f1 2 r2 hr2 (d + 1) empty) (by simp -implicitDefEqProofs only [go_sem, Nat.reduceEqDiff, Nat.reduceAdd, Nat.reduceLT, Nat.reduceLeDiff, Nat.reduceMul, Nat.reduceBEq, reduceIte, c1]) rfl (by simp -implicitDefEqProofs only [go_sem, Nat.reduceEqDiff, Nat.reduceAdd, Nat.reduceLT, Nat.reduceLeDiff, Nat.reduceMul, Nat.reduceBEq, reduceIte]) (by simp -implicitDefEqProofs only [go_sem, Nat.reduceEqDiff, Nat.reduceAdd, Nat.reduceLT, Nat.reduceLeDiff, Nat.reduceMul, Nat.reduceBEq, reduceIte]) ?_ rfl rfl
    cases h
    subst hQ
    simp -implicitDefEqProofs only [go_sem, Nat.reduceEqDiff, Nat.reduceAdd, Nat.reduceLT, Nat.reduceLeDiff, Nat.reduceMul, Nat.reduceBEq, reduceIte, c1, Try.results15]
  · rcases ib h with ⟨c3, h⟩ | ⟨c3, h⟩
    · obtain ⟨r4, hr4, h⟩ := bs h
      simp -implicitDefEqProofs only [go_sem, Nat.reduceEqDiff, Nat.reduceAdd, Nat.reduceLT, Nat.reduceLeDiff, Nat.reduceMul, Nat.reduceBEq, reduceIte, c1, c3]
      refine call_frz (r' := .p (.int .i64 r4)) (m_bound_never_ev a0 a1.f1 1 r4 hr4 (d + 1) empty) (by simp -implicitDefEqProofs only [go_sem, Nat.reduceEqDiff, Nat.reduceAdd, Nat.reduceLT, Nat.reduceLeDiff, Nat.reduceMul, Nat.reduceBEq, reduceIte, c1, c3]) rfl (by simp -implicitDefEqProofs only [go_sem, Nat.reduceEqDiff, Nat.reduceAdd, Nat.reduceLT, Nat.reduceLeDiff, Nat.reduceMul, Nat.reduceBEq, reduceIte]) (by simp -implicitDefEqProofs only [go_sem, Nat.reduceEqDiff, Nat.reduceAdd, Nat.reduceLT, Nat.reduceLeDiff, Nat.reduceMul, Nat.reduceBEq, reduceIte]) ?_ rfl rfl
      cases h
      subst hQ
      simp -implicitDefEqProofs only [go_sem, Nat.reduceEqDiff, Nat.reduceAdd, Nat.reduceLT, Nat.reduceLeDiff, Nat.reduceMul, Nat.reduceBEq, reduceIte, c1, c3, Try.results15]
    · rcases ib h with ⟨c5, h⟩ | ⟨c5, h⟩
      · obtain ⟨r6, hr6, h⟩ := bs h
        simp -implicitDefEqProofs only [go_sem, Nat.reduceEqDiff, Nat.reduceAdd, Nat.reduceLT, Nat.reduceLeDiff, Nat.reduceMul, Nat.reduceBEq, reduceIte, c1, c3, c5]
        refine call_frz (r' := .p (.int .i64 r6)) (m_bound_never_ev a0 a1.f1 2 r6 hr6 (d + 1) empty) (by simp -implicitDefEqProofs only [go_sem, Nat.reduceEqDiff, Nat.reduceAdd, Nat.reduceLT, Nat.reduceLeDiff, Nat.reduceMul, Nat.reduceBEq, reduceIte, c1, c3, c5]) rfl (by simp -implicitDefEqProofs only [go_sem, Nat.reduceEqDiff, Nat.reduceAdd, Nat.reduceLT, Nat.reduceLeDiff, Nat.reduceMul, Nat.reduceBEq, reduceIte]) (by simp -implicitDefEqProofs only [go_sem, Nat.reduceEqDiff, Nat.reduceAdd, Nat.reduceLT, Nat.reduceLeDiff, Nat.reduceMul, Nat.reduceBEq, reduceIte]) ?_ rfl rfl
        rcases ib h with ⟨c7, h⟩ | ⟨c7, h⟩
        · cases h
          subst hQ
          simp -implicitDefEqProofs only [go_sem, Nat.reduceEqDiff, Nat.reduceAdd, Nat.reduceLT, Nat.reduceLeDiff, Nat.reduceMul, Nat.reduceBEq, reduceIte, c1, c3, c5, c7, Try.results15]
        · obtain ⟨r8, hr8, h⟩ := bs h
          simp -implicitDefEqProofs only [go_sem, Nat.reduceEqDiff, Nat.reduceAdd, Nat.reduceLT, Nat.reduceLeDiff, Nat.reduceMul, Nat.reduceBEq, reduceIte, c1, c3, c5, c7]
          refine call_frz (r' := .tup [.agg [.p (.sl (r8.1.f0.map cTRat)), .p (.int .i64 r8.1.f1.f0), .p (.int .i64 r8.1.f1.f1)], .p (.int .i64 r8.2)]) (m_term_Scale_ev a1.f1 (⟨-1, 1⟩ : TRat) r8 hr8 (d + 1) empty) (by simp -implicitDefEqProofs only [go_sem, Nat.reduceEqDiff, Nat.reduceAdd, Nat.reduceLT, Nat.reduceLeDiff, Nat.reduceMul, Nat.reduceBEq, reduceIte, c1, c3, c5, c7]) rfl (by simp -implicitDefEqProofs only [go_sem, Nat.reduceEqDiff, Nat.reduceAdd, Nat.reduceLT, Nat.reduceLeDiff, Nat.reduceMul, Nat.reduceBEq, reduceIte]) (by simp -implicitDefEqProofs only [go_sem, Nat.reduceEqDiff, Nat.reduceAdd, Nat.reduceLT, Nat.reduceLeDiff, Nat.reduceMul, Nat.reduceBEq, reduceIte]) ?_ rfl rfl
          rcases ib h with ⟨c9, h⟩ | ⟨c9, h⟩
          · cases h
            subst hQ
            simp -implicitDefEqProofs only [go_sem, Nat.reduceEqDiff, Nat.reduceAdd, Nat.reduceLT, Nat.reduceLeDiff, Nat.reduceMul, Nat.reduceBEq, reduceIte, c1, c3, c5, c7, c9, Try.results15]
          · obtain ⟨r10, hr10, h⟩ := bs h
            simp -implicitDefEqProofs only [go_sem, Nat.reduceEqDiff, Nat.reduceAdd, Nat.reduceLT, Nat.reduceLeDiff, Nat.reduceMul, Nat.reduceBEq, reduceIte, c1, c3, c5, c7, c9]
            refine call_frz (r' := .p (.int .i64 r10)) (m_bound_never_ev a0 r8.1 2 r10 hr10 (d + 1) empty) (by simp -implicitDefEqProofs only [go_sem, Nat.reduceEqDiff, Nat.reduceAdd, Nat.reduceLT, Nat.reduceLeDiff, Nat.reduceMul, Nat.reduceBEq, reduceIte, c1, c3, c5, c7, c9]) rfl (by simp -implicitDefEqProofs only [go_sem, Nat.reduceEqDiff, Nat.reduceAdd, Nat.reduceLT, Nat.reduceLeDiff, Nat.reduceMul, Nat.reduceBEq, reduceIte]) (by simp -implicitDefEqProofs only [go_sem, Nat.reduceEqDiff, Nat.reduceAdd, Nat.reduceLT, Nat.reduceLeDiff, Nat.reduceMul, Nat.reduceBEq, reduceIte]) ?_ rfl rfl
            cases h
            subst hQ
            simp -implicitDefEqProofs only [go_sem, Nat.reduceEqDiff, Nat.reduceAdd, Nat.reduceLT, Nat.reduceLeDiff, Nat.reduceMul, Nat.reduceBEq, reduceIte, c1, c3, c5, c7, c9, Try.results15]
      · cases h
        subst hQ
        simp -implicitDefEqProofs only [go_sem, Nat.reduceEqDiff, Nat.reduceAdd, Nat.reduceLT, Nat.reduceLeDiff, Nat.reduceMul, Nat.reduceBEq, reduceIte, c1, c3, c5, Try.results15]
theorem m_law04_awake_ev  (r0 : Bool) (h : m_law04_awake  = some r0) (d : Nat) (G : Heap) : Tel Try.prog TB d 10 [] G (.p (.bool r0)) (G) := by
  unfold m_law04_awake at h
  refine Tel.intro mix Try.func10 rfl (Nat.le_of_ble_eq_true rfl) {frzAt := fun t => t == 31 || t == 38 || t == 64} (by kernel_rfl) (by kernel_rfl) ?_
  generalize hQ : callPost _ _ _ _ _ = Q
  obtain ⟨r1, hr1, h⟩ := bs h
  simp -implicitDefEqProofs only [go_sem, Nat.reduceEqDiff, Nat.reduceAdd, Nat.reduceLT, Nat.reduceLeDiff, Nat.reduceMul, Nat.reduceBEq, reduceIte]
  refine call_frz (r' := .tup [.p (.sl (r1.1.map cTRat)), .p (.int .i64 r1.2)]) (m_bound_Solve_ev ([(⟨2, (⟨[(⟨1, 1⟩ : TRat)], (⟨0, 1⟩ : TRat)⟩ : TTerm)⟩ : TRow), (⟨1, (⟨[(⟨-1, 1⟩ : TRat)], (⟨1, 1⟩ : TRat)⟩ : TTerm)⟩ : TRow)]) r1 hr1 (d + 1) empty) (by simp -implicitDefEqProofs only [go_sem, Nat.reduceEqDiff, Nat.reduceAdd, Nat.reduceLT, Nat.reduceLeDiff, Nat.reduceMul, Nat.reduceBEq, reduceIte]) rfl (by simp -implicitDefEqProofs only [go_sem, Nat.reduceEqDiff, Nat.reduceAdd, Nat.reduceLT, Nat.reduceLeDiff, Nat.reduceMul, Nat.reduceBEq, reduceIte]) (by simp -implicitDefEqProofs only [go_sem, Nat.reduceEqDiff, Nat.reduceAdd, Nat.reduceLT, Nat.reduceLeDiff, Nat.reduceMul, Nat.reduceBEq, reduceIte]) ?_ rfl rfl
  obtain ⟨r2, hr2, h⟩ := bs h
  simp -implicitDefEqProofs only [go_sem, Nat.reduceEqDiff, Nat.reduceAdd, Nat.reduceLT, Nat.reduceLeDiff, Nat.reduceMul, Nat.reduceBEq, reduceIte]
  refine call_frz (r' := .tup [.p (.sl (r2.1.map cTRat)), .p (.int .i64 r2.2)]) (m_bound_Solve_ev ([(⟨2, (⟨[(⟨1, 1⟩ : TRat)], (⟨0, 1⟩ : TRat)⟩ : TTerm)⟩ : TRow), (⟨1, (⟨[(⟨-1, 1⟩ : TRat)], (⟨0, 1⟩ : TRat)⟩ : TTerm)⟩ : TRow)]) r2 hr2 (d + 1) empty) (by simp -implicitDefEqProofs only [go_sem, Nat.reduceEqDiff, Nat.reduceAdd, Nat.reduceLT, Nat.reduceLeDiff, Nat.reduceMul, Nat.reduceBEq, reduceIte]) rfl (by simp -implicitDefEqProofs only [go_sem, Nat.reduceEqDiff, Nat.reduceAdd, Nat.reduceLT, Nat.reduceLeDiff, Nat.reduceMul, Nat.reduceBEq, reduceIte]) (by simp -implicitDefEqProofs only [go_sem, Nat.reduceEqDiff, Nat.reduceAdd, Nat.reduceLT, Nat.reduceLeDiff, Nat.reduceMul, Nat.reduceBEq, reduceIte]) ?_ rfl rfl
  rcases ib h with ⟨c3, h⟩ | ⟨c3, h⟩
  · rcases ib h with ⟨c4, h⟩ | ⟨c4, h⟩
    · obtain ⟨v5, hv5, h⟩ := bs h
      replace hv5 := gis hv5
      simp -implicitDefEqProofs only [go_sem, Nat.reduceEqDiff, Nat.reduceAdd, Nat.reduceLT, Nat.reduceLeDiff, Nat.reduceMul, Nat.reduceBEq, reduceIte, c3, c4, hv5]
      refine eqS_TRat v5 (⟨1, 2⟩ : TRat) ?_
      rcases ib h with ⟨c6, h⟩ | ⟨c6, h⟩
      · rcases ib h with ⟨c7, h⟩ | ⟨c7, h⟩
        · obtain ⟨r8, hr8, h⟩ := bs h
          simp -implicitDefEqProofs only [go_sem, Nat.reduceEqDiff, Nat.reduceAdd, Nat.reduceLT, Nat.reduceLeDiff, Nat.reduceMul, Nat.reduceBEq, reduceIte, c3, c4, hv5, c6, c7]
          refine call_frz (r' := .p (.bool r8)) (m_bound_Holds_ev ([(⟨2, (⟨[(⟨1, 1⟩ : TRat)], (⟨0, 1⟩ : TRat)⟩ : TTerm)⟩ : TRow), (⟨1, (⟨[(⟨-1, 1⟩ : TRat)], (⟨1, 1⟩ : TRat)⟩ : TTerm)⟩ : TRow)]) r1.1 r8 hr8 (d + 1) empty) (by simp -implicitDefEqProofs only [go_sem, Nat.reduceEqDiff, Nat.reduceAdd, Nat.reduceLT, Nat.reduceLeDiff, Nat.reduceMul, Nat.reduceBEq, reduceIte, c3, c4, hv5, c6, c7]) rfl (by simp -implicitDefEqProofs only [go_sem, Nat.reduceEqDiff, Nat.reduceAdd, Nat.reduceLT, Nat.reduceLeDiff, Nat.reduceMul, Nat.reduceBEq, reduceIte]) (by simp -implicitDefEqProofs only [go_sem, Nat.reduceEqDiff, Nat.reduceAdd, Nat.reduceLT, Nat.reduceLeDiff, Nat.reduceMul, Nat.reduceBEq, reduceIte]) ?_ rfl rfl
          cases h
          subst hQ
          simp -implicitDefEqProofs only [go_sem, Nat.reduceEqDiff, Nat.reduceAdd, Nat.reduceLT, Nat.reduceLeDiff, Nat.reduceMul, Nat.reduceBEq, reduceIte, c3, c4, hv5, c6, c7, Try.results10]
        · cases h
          subst hQ
          simp -implicitDefEqProofs only [go_sem, Nat.reduceEqDiff, Nat.reduceAdd, Nat.reduceLT, Nat.reduceLeDiff, Nat.reduceMul, Nat.reduceBEq, reduceIte, c3, c4, hv5, c6, c7, Try.results10]
      · cases h
        subst hQ
        simp -implicitDefEqProofs only [go_sem, Nat.reduceEqDiff, Nat.reduceAdd, Nat.reduceLT, Nat.reduceLeDiff, Nat.reduceMul, Nat.reduceBEq, reduceIte, c3, c4, hv5, c6, Try.results10]
    · cases h
      subst hQ
      simp -implicitDefEqProofs only [go_sem, Nat.reduceEqDiff, Nat.reduceAdd, Nat.reduceLT, Nat.reduceLeDiff, Nat.reduceMul, Nat.reduceBEq, reduceIte, c3, c4, Try.results10]
  · cases h
    subst hQ
    simp -implicitDefEqProofs only [go_sem, Nat.reduceEqDiff, Nat.reduceAdd, Nat.reduceLT, Nat.reduceLeDiff, Nat.reduceMul, Nat.reduceBEq, reduceIte, c3, Try.results10]
theorem m_law04_small_ev (a0 : List TRow) (r0 : Bool) (h : m_law04_small a0 = some r0) (d : Nat) (G : Heap) : Tel Try.prog TB d 11 [.p (.sl (a0.map cTRow))] G (.p (.bool r0)) (G) := by
  unfold m_law04_small at h
  refine Tel.intro mix Try.func11 rfl (Nat.le_of_ble_eq_true rfl) {frzAt := fun t => t == 15} (by kernel_rfl) (by kernel_rfl) ?_
  generalize hQ : callPost _ _ _ _ _ = Q
  simp -implicitDefEqProofs only [go_sem, Nat.reduceEqDiff, Nat.reduceAdd, Nat.reduceLT, Nat.reduceLeDiff, Nat.reduceMul, Nat.reduceBEq, reduceIte]
  obtain ⟨z3, hL3, h⟩ := bs h
  obtain ⟨I3, hI3⟩ : ∃ I : Int → St → Prop, I = fun v4 s => s.G = cut d G ∧ s.F 0 = .p (.sl (a0.map cTRow)) ∧ s.F 3 = .p (.int .i64 v4) ∧ True := ⟨_, rfl⟩
  obtain ⟨R3, hR3⟩ : ∃ R : ((Unit) ⊕ (Bool)) → GE → St → Prop, R = fun x e s => match x with | .inl _ => e = .exit 0 ∧ s.G = cut d G ∧ s.F 0 = .p (.sl (a0.map cTRow)) ∧ True | .inr r => e = .ret ∧ (r = r0 → Q .ret s) := ⟨_, rfl⟩
  refine lp (ts := []) rfl hL3 I3 R3 ?_ ?_ ?_
  · rw [hI3]
    simp -implicitDefEqProofs only [go_sem, Nat.reduceEqDiff, Nat.reduceAdd, Nat.reduceLT, Nat.reduceLeDiff, Nat.reduceMul, Nat.reduceBEq, reduceIte]
  · clear h hL3
    rintro v4 y s h i
    rw [hI3] at i
    obtain ⟨gi3, i3⟩ := i
    replace h : m_law04_small_L0 a0 (v4) = some y := h
    unfold m_law04_small_L0 at h
    rcases ib h with ⟨c5, h⟩ | ⟨c5, h⟩
    · obtain ⟨v6, hv6, h⟩ := bs h
      replace hv6 := gis hv6
      obtain ⟨r7, hr7, h⟩ := bs h
      simp -implicitDefEqProofs only [go_sem, Nat.reduceEqDiff, Nat.reduceAdd, Nat.reduceLT, Nat.reduceLeDiff, Nat.reduceMul, Nat.reduceBEq, reduceIte, gi3, i3, c5, hv6]
      refine call_frz (r' := .p (.bool r7)) (m_ref02_Small_ev v6.f1 r7 hr7 (d + 1) empty) (by simp -implicitDefEqProofs only [go_sem, Nat.reduceEqDiff, Nat.reduceAdd, Nat.reduceLT, Nat.reduceLeDiff, Nat.reduceMul, Nat.reduceBEq, reduceIte, gi3, i3, c5, hv6]) rfl (by simp -implicitDefEqProofs only [go_sem, Nat.reduceEqDiff, Nat.reduceAdd, Nat.reduceLT, Nat.reduceLeDiff, Nat.reduceMul, Nat.reduceBEq, reduceIte]) (by simp -implicitDefEqProofs only [go_sem, Nat.reduceEqDiff, Nat.reduceAdd, Nat.reduceLT, Nat.reduceLeDiff, Nat.reduceMul, Nat.reduceBEq, reduceIte]) ?_ rfl rfl
      rcases ib h with ⟨c8, h⟩ | ⟨c8, h⟩
      · cases h
        simp -implicitDefEqProofs only [go_sem, Nat.reduceEqDiff, Nat.reduceAdd, Nat.reduceLT, Nat.reduceLeDiff, Nat.reduceMul, Nat.reduceBEq, reduceIte, gi3, i3, c5, hv6, c8]
        rw [hR3]
        refine ⟨rfl, ?_⟩
        intro hr
        subst hr
        subst hQ
        simp -implicitDefEqProofs only [go_sem, Nat.reduceEqDiff, Nat.reduceAdd, Nat.reduceLT, Nat.reduceLeDiff, Nat.reduceMul, Nat.reduceBEq, reduceIte, gi3, i3, c5, hv6, c8, Try.results11]
      · cases h
        simp -implicitDefEqProofs only [go_sem, Nat.reduceEqDiff, Nat.reduceAdd, Nat.reduceLT, Nat.reduceLeDiff, Nat.reduceMul, Nat.reduceBEq, reduceIte, gi3, i3, c5, hv6, c8]
        rw [hI3]
        simp -implicitDefEqProofs only [go_sem, Nat.reduceEqDiff, Nat.reduceAdd, Nat.reduceLT, Nat.reduceLeDiff, Nat.reduceMul, Nat.reduceBEq, reduceIte, gi3, i3, c5, hv6, c8]
    · cases h
      simp -implicitDefEqProofs only [go_sem, Nat.reduceEqDiff, Nat.reduceAdd, Nat.reduceLT, Nat.reduceLeDiff, Nat.reduceMul, Nat.reduceBEq, reduceIte, gi3, i3, c5]
      rw [hR3]
      first | refine ⟨rfl, ?_⟩ | refine ⟨(), rfl, ?_⟩
      simp -implicitDefEqProofs only [go_sem, Nat.reduceEqDiff, Nat.reduceAdd, Nat.reduceLT, Nat.reduceLeDiff, Nat.reduceMul, Nat.reduceBEq, reduceIte, gi3, i3, c5]
  · clear hL3 hI3
    intro e s hr3
    rw [hR3] at hr3
    clear hR3
    rcases z3 with _ | r
    · try dsimp only at h hr3
      obtain ⟨rfl, gi9, i9⟩ := hr3
      cases h
      subst hQ
      simp -implicitDefEqProofs only [go_sem, Nat.reduceEqDiff, Nat.reduceAdd, Nat.reduceLT, Nat.reduceLeDiff, Nat.reduceMul, Nat.reduceBEq, reduceIte, gi9, i9, Try.results11]
    · try dsimp only at h hr3
      obtain ⟨rfl, hr3⟩ := hr3
      cases h
      try simp -implicitDefEqProofs only [go_sem, Nat.reduceEqDiff, Nat.reduceAdd, Nat.reduceLT, Nat.reduceLeDiff, Nat.reduceMul, Nat.reduceBEq, reduceIte]
      exact hr3 rfl
theorem m_law04_BoundMore_ev (a0 : List TRow) (a1 : TRow) (r0 : Bool) (h : m_law04_BoundMore a0 a1 = some r0) (d : Nat) (G : Heap) : Tel Try.prog TB d 3 [.p (.sl (a0.map cTRow)), .agg ((cTRow a1).map .p)] G (.p (.bool r0)) (G) := by
  unfold m_law04_BoundMore at h
  refine Tel.intro mix Try.func3 rfl (Nat.le_of_ble_eq_true rfl) {frzAt := fun t => t == 9 || t == 13 || t == 24 || t == 27 || t == 30 || t == 40, boxAt := fun t => if t = 3 then some 3 else if t = 1000036 then some 36 else if t = 1000039 then some 36 else none} (by kernel_rfl) (by kernel_rfl) ?_
  generalize hQ : callPost _ _ _ _ _ = Q
  obtain ⟨r1, hr1, h⟩ := bs h
  simp -implicitDefEqProofs only [go_sem, Nat.reduceEqDiff, Nat.reduceAdd, Nat.reduceLT, Nat.reduceLeDiff, Nat.reduceMul, Nat.reduceBEq, reduceIte]
  refine call_frz (r' := .p (.bool r1)) (args := []) (caps := []) (m_law04_awake_ev  r1 hr1 (d + 1) empty) (wkRs_refl []) rfl (by simp -implicitDefEqProofs only [go_sem, Nat.reduceEqDiff, Nat.reduceAdd, Nat.reduceLT, Nat.reduceLeDiff, Nat.reduceMul, Nat.reduceBEq, reduceIte]) (by simp -implicitDefEqProofs only [go_sem, Nat.reduceEqDiff, Nat.reduceAdd, Nat.reduceLT, Nat.reduceLeDiff, Nat.reduceMul, Nat.reduceBEq, reduceIte]) ?_ rfl rfl
  simp -implicitDefEqProofs only [go_sem, Nat.reduceEqDiff, Nat.reduceAdd, Nat.reduceLT, Nat.reduceLeDiff, Nat.reduceMul, Nat.reduceBEq, reduceIte]
  obtain ⟨v2, hz, h⟩ := bs h
  obtain ⟨R3, hR3⟩ : ∃ R : St → Prop, R = fun s => s.G = fillKey (cut d G) (d + 1) 3 [.box [.p (.int .i64 a1.f0), .p (.sl (a1.f1.f0.map cTRat)), .p (.int .i64 a1.f1.f1.f0), .p (.int .i64 a1.f1.f1.f1)]] ∧ s.F 0 = .p (.sl (a0.map cTRow)) ∧ s.F 3 = .bp (d + 1, 3, 0) 0 ∧ s.F 26 = .p (.bool v2) ∧ True := ⟨_, rfl⟩
  refine cutR R3 ?_ ?_
  · replace h := hz
    rcases ib h with ⟨c4, h⟩ | ⟨c4, h⟩
    · cases h
      simp -implicitDefEqProofs only [go_sem, Nat.reduceEqDiff, Nat.reduceAdd, Nat.reduceLT, Nat.reduceLeDiff, Nat.reduceMul, Nat.reduceBEq, reduceIte, c4]
      rw [hR3]
      simp -implicitDefEqProofs only [go_sem, Nat.reduceEqDiff, Nat.reduceAdd, Nat.reduceLT, Nat.reduceLeDiff, Nat.reduceMul, Nat.reduceBEq, reduceIte, c4]
    · obtain ⟨r5, hr5, h⟩ := bs h
      simp -implicitDefEqProofs only [go_sem, Nat.reduceEqDiff, Nat.reduceAdd, Nat.reduceLT, Nat.reduceLeDiff, Nat.reduceMul, Nat.reduceBEq, reduceIte, c4]
      refine call_frz (r' := .p (.bool r5)) (m_law04_small_ev a0 r5 hr5 (d + 1) empty) (by simp -implicitDefEqProofs only [go_sem, Nat.reduceEqDiff, Nat.reduceAdd, Nat.reduceLT, Nat.reduceLeDiff, Nat.reduceMul, Nat.reduceBEq, reduceIte, c4]) rfl (by simp -implicitDefEqProofs only [go_sem, Nat.reduceEqDiff, Nat.reduceAdd, Nat.reduceLT, Nat.reduceLeDiff, Nat.reduceMul, Nat.reduceBEq, reduceIte]) (by simp -implicitDefEqProofs only [go_sem, Nat.reduceEqDiff, Nat.reduceAdd, Nat.reduceLT, Nat.reduceLeDiff, Nat.reduceMul, Nat.reduceBEq, reduceIte]) ?_ rfl rfl
      rcases ib h with ⟨c6, h⟩ | ⟨c6, h⟩
      · cases h
        simp -implicitDefEqProofs only [go_sem, Nat.reduceEqDiff, Nat.reduceAdd, Nat.reduceLT, Nat.reduceLeDiff, Nat.reduceMul, Nat.reduceBEq, reduceIte, c4, c6]
        rw [hR3]
        simp -implicitDefEqProofs only [go_sem, Nat.reduceEqDiff, Nat.reduceAdd, Nat.reduceLT, Nat.reduceLeDiff, Nat.reduceMul, Nat.reduceBEq, reduceIte, c4, c6]
      · rcases ib h with ⟨c7, h⟩ | ⟨c7, h⟩
        · cases h
          simp -implicitDefEqProofs only [go_sem, Nat.reduceEqDiff, Nat.reduceAdd, Nat.reduceLT, Nat.reduceLeDiff, Nat.reduceMul, Nat.reduceBEq, reduceIte, c4, c6, c7]
          rw [hR3]
          simp -implicitDefEqProofs only [go_sem, Nat.reduceEqDiff, Nat.reduceAdd, Nat.reduceLT, Nat.reduceLeDiff, Nat.reduceMul, Nat.reduceBEq, reduceIte, c4, c6, c7]
        · obtain ⟨r8, hr8, h⟩ := bs h
          simp -implicitDefEqProofs only [go_sem, Nat.reduceEqDiff, Nat.reduceAdd, Nat.reduceLT, Nat.reduceLeDiff, Nat.reduceMul, Nat.reduceBEq, reduceIte, c4, c6, c7]
          refine call_frz (r' := .p (.bool r8)) (m_ref02_Small_ev a1.f1 r8 hr8 (d + 1) empty) (by simp -implicitDefEqProofs only [go_sem, Nat.reduceEqDiff, Nat.reduceAdd, Nat.reduceLT, Nat.reduceLeDiff, Nat.reduceMul, Nat.reduceBEq, reduceIte, c4, c6, c7]) rfl (by simp -implicitDefEqProofs only [go_sem, Nat.reduceEqDiff, Nat.reduceAdd, Nat.reduceLT, Nat.reduceLeDiff, Nat.reduceMul, Nat.reduceBEq, reduceIte]) (by simp -implicitDefEqProofs only [go_sem, Nat.reduceEqDiff, Nat.reduceAdd, Nat.reduceLT, Nat.reduceLeDiff, Nat.reduceMul, Nat.reduceBEq, reduceIte]) ?_ rfl rfl
          cases h
          simp -implicitDefEqProofs only [go_sem, Nat.reduceEqDiff, Nat.reduceAdd, Nat.reduceLT, Nat.reduceLeDiff, Nat.reduceMul, Nat.reduceBEq, reduceIte, c4, c6, c7]
          rw [hR3]
          simp -implicitDefEqProofs only [go_sem, Nat.reduceEqDiff, Nat.reduceAdd, Nat.reduceLT, Nat.reduceLeDiff, Nat.reduceMul, Nat.reduceBEq, reduceIte, c4, c6, c7]
  · replace h := h; clear hz
    rintro s i
    rw [hR3] at i
    obtain ⟨gi9, i9⟩ := i
    clear hR3
    try dsimp only at h
    rcases ib h with ⟨c10, h⟩ | ⟨c10, h⟩
    · obtain ⟨r11, hr11, h⟩ := bs h
      simp -implicitDefEqProofs only [go_sem, Nat.reduceEqDiff, Nat.reduceAdd, Nat.reduceLT, Nat.reduceLeDiff, Nat.reduceMul, Nat.reduceBEq, reduceIte, gi9, i9, c10]
      try refine gCall_eta gi9 ?_
      refine call_frz (r' := .p (.bool r11)) (args := []) (caps := []) (m_law04_awake_ev  r11 hr11 (d + 1) empty) (wkRs_refl []) rfl (by simp -implicitDefEqProofs only [go_sem, Nat.reduceEqDiff, Nat.reduceAdd, Nat.reduceLT, Nat.reduceLeDiff, Nat.reduceMul, Nat.reduceBEq, reduceIte]) (by simp -implicitDefEqProofs only [go_sem, Nat.reduceEqDiff, Nat.reduceAdd, Nat.reduceLT, Nat.reduceLeDiff, Nat.reduceMul, Nat.reduceBEq, reduceIte]) ?_ rfl rfl
      cases h
      subst hQ
      simp -implicitDefEqProofs only [go_sem, Nat.reduceEqDiff, Nat.reduceAdd, Nat.reduceLT, Nat.reduceLeDiff, Nat.reduceMul, Nat.reduceBEq, reduceIte, gi9, i9, c10, Try.results3]
    · obtain ⟨r12, hr12, h⟩ := bs h
      simp -implicitDefEqProofs only [go_sem, Nat.reduceEqDiff, Nat.reduceAdd, Nat.reduceLT, Nat.reduceLeDiff, Nat.reduceMul, Nat.reduceBEq, reduceIte, gi9, i9, c10]
      refine call_frz (r' := .tup [.p (.sl (r12.1.map cTRat)), .p (.int .i64 r12.2)]) (m_bound_Solve_ev a0 r12 hr12 (d + 1) empty) (by simp -implicitDefEqProofs only [go_sem, Nat.reduceEqDiff, Nat.reduceAdd, Nat.reduceLT, Nat.reduceLeDiff, Nat.reduceMul, Nat.reduceBEq, reduceIte, gi9, i9, c10]) rfl (by simp -implicitDefEqProofs only [go_sem, Nat.reduceEqDiff, Nat.reduceAdd, Nat.reduceLT, Nat.reduceLeDiff, Nat.reduceMul, Nat.reduceBEq, reduceIte]) (by simp -implicitDefEqProofs only [go_sem, Nat.reduceEqDiff, Nat.reduceAdd, Nat.reduceLT, Nat.reduceLeDiff, Nat.reduceMul, Nat.reduceBEq, reduceIte]) ?_ rfl rfl
      obtain ⟨_, c13, h⟩ := bs h
      replace c13 := rqs c13
      simp -implicitDefEqProofs only [go_sem, Nat.reduceEqDiff, Nat.reduceAdd, Nat.reduceLT, Nat.reduceLeDiff, Nat.reduceMul, Nat.reduceBEq, reduceIte, gi9, i9, c10, c13]
      refine append_G (o := none) (ts := [36]) (es := (([] : List TRow) : List TRow).map cTRow) (xs := (a0 : List TRow).map cTRow) (ho := by simp -implicitDefEqProofs only [go_sem, Nat.reduceEqDiff, Nat.reduceAdd, Nat.reduceLT, Nat.reduceLeDiff, Nat.reduceMul, Nat.reduceBEq, reduceIte]) (hG := by simp -implicitDefEqProofs only [go_sem, Nat.reduceEqDiff, Nat.reduceAdd, Nat.reduceLT, Nat.reduceLeDiff, Nat.reduceMul, Nat.reduceBEq, reduceIte, gi9, i9, c10, c13]) (hj := by simp -implicitDefEqProofs only [go_sem, Nat.reduceEqDiff, Nat.reduceAdd, Nat.reduceLT, Nat.reduceLeDiff, Nat.reduceMul, Nat.reduceBEq, reduceIte]) (he := el22) (hx := by simp -implicitDefEqProofs only [go_sem, Nat.reduceEqDiff, Nat.reduceAdd, Nat.reduceLT, Nat.reduceLeDiff, Nat.reduceMul, Nat.reduceBEq, reduceIte, gi9, i9, c10, c13]) (h1 := by simp -implicitDefEqProofs only [go_sem, Nat.reduceEqDiff, Nat.reduceAdd, Nat.reduceLT, Nat.reduceLeDiff, Nat.reduceMul, Nat.reduceBEq, reduceIte]) (h2 := by simp -implicitDefEqProofs only [go_sem, Nat.reduceEqDiff, Nat.reduceAdd, Nat.reduceLT, Nat.reduceLeDiff, Nat.reduceMul, Nat.reduceBEq, reduceIte]) (ha := rfl) (hra := rfl) (hb := by simpa using c13) (hbb := by decide) ?_
      intro o14 ko14
      obtain ⟨_, c15, h⟩ := bs h
      replace c15 := rqs c15
      simp -implicitDefEqProofs only [go_sem, Nat.reduceEqDiff, Nat.reduceAdd, Nat.reduceLT, Nat.reduceLeDiff, Nat.reduceMul, Nat.reduceBEq, reduceIte, gi9, i9, c10, c13, ko14, c15, appG_grow (k := 36) ko14, appG_grow_p (k := 36) ko14]
      refine append_G (o := o14) (ts := [36, 39]) (es := ((([] : List TRow) ++ a0) : List TRow).map cTRow) (xs := ([a1] : List TRow).map cTRow) (ho := growOK.sub ko14 (by decide)) (hG := by simp -implicitDefEqProofs only [go_sem, Nat.reduceEqDiff, Nat.reduceAdd, Nat.reduceLT, Nat.reduceLeDiff, Nat.reduceMul, Nat.reduceBEq, reduceIte, gi9, i9, c10, c13, ko14, c15, growO_out (t := 39) ko14 (by decide)]) (hj := by simp -implicitDefEqProofs only [go_sem, Nat.reduceEqDiff, Nat.reduceAdd, Nat.reduceLT, Nat.reduceLeDiff, Nat.reduceMul, Nat.reduceBEq, reduceIte]) (he := el22) (hx := by simp -implicitDefEqProofs only [go_sem, Nat.reduceEqDiff, Nat.reduceAdd, Nat.reduceLT, Nat.reduceLeDiff, Nat.reduceMul, Nat.reduceBEq, reduceIte, gi9, i9, c10, c13, ko14, c15]) (h1 := by simp -implicitDefEqProofs only [go_sem, Nat.reduceEqDiff, Nat.reduceAdd, Nat.reduceLT, Nat.reduceLeDiff, Nat.reduceMul, Nat.reduceBEq, reduceIte]) (h2 := by simp -implicitDefEqProofs only [go_sem, Nat.reduceEqDiff, Nat.reduceAdd, Nat.reduceLT, Nat.reduceLeDiff, Nat.reduceMul, Nat.reduceBEq, reduceIte]) (ha := rfl) (hra := rfl) (hb := by simpa using c15) (hbb := by decide) ?_
      intro o16 ko16
      obtain ⟨r17, hr17, h⟩ := bs h
      simp -implicitDefEqProofs only [go_sem, Nat.reduceEqDiff, Nat.reduceAdd, Nat.reduceLT, Nat.reduceLeDiff, Nat.reduceMul, Nat.reduceBEq, reduceIte, gi9, i9, c10, c13, ko14, c15, ko16]
      refine call_frz (r' := .tup [.p (.sl (r17.1.map cTRat)), .p (.int .i64 r17.2)]) (m_bound_Solve_ev ((([] : List TRow) ++ a0) ++ ([a1])) r17 hr17 (d + 1) empty) (by simp -implicitDefEqProofs only [go_sem, Nat.reduceEqDiff, Nat.reduceAdd, Nat.reduceLT, Nat.reduceLeDiff, Nat.reduceMul, Nat.reduceBEq, reduceIte, gi9, i9, c10, c13, ko14, c15, ko16]) rfl (by simp -implicitDefEqProofs only [go_sem, Nat.reduceEqDiff, Nat.reduceAdd, Nat.reduceLT, Nat.reduceLeDiff, Nat.reduceMul, Nat.reduceBEq, reduceIte]) (by simp -implicitDefEqProofs only [go_sem, Nat.reduceEqDiff, Nat.reduceAdd, Nat.reduceLT, Nat.reduceLeDiff, Nat.reduceMul, Nat.reduceBEq, reduceIte]) ?_ rfl rfl
      rcases ib h with ⟨c18, h⟩ | ⟨c18, h⟩
      · cases h
        subst hQ
        simp -implicitDefEqProofs only [go_sem, Nat.reduceEqDiff, Nat.reduceAdd, Nat.reduceLT, Nat.reduceLeDiff, Nat.reduceMul, Nat.reduceBEq, reduceIte, gi9, i9, c10, c13, ko14, c15, ko16, c18, Try.results3]
      · rcases ib h with ⟨c19, h⟩ | ⟨c19, h⟩
        · cases h
          subst hQ
          simp -implicitDefEqProofs only [go_sem, Nat.reduceEqDiff, Nat.reduceAdd, Nat.reduceLT, Nat.reduceLeDiff, Nat.reduceMul, Nat.reduceBEq, reduceIte, gi9, i9, c10, c13, ko14, c15, ko16, c18, c19, Try.results3]
        · rcases ib h with ⟨c20, h⟩ | ⟨c20, h⟩
          · cases h
            subst hQ
            simp -implicitDefEqProofs only [go_sem, Nat.reduceEqDiff, Nat.reduceAdd, Nat.reduceLT, Nat.reduceLeDiff, Nat.reduceMul, Nat.reduceBEq, reduceIte, gi9, i9, c10, c13, ko14, c15, ko16, c18, c19, c20, Try.results3]
          · cases h
            subst hQ
            simp -implicitDefEqProofs only [go_sem, Nat.reduceEqDiff, Nat.reduceAdd, Nat.reduceLT, Nat.reduceLeDiff, Nat.reduceMul, Nat.reduceBEq, reduceIte, gi9, i9, c10, c13, ko14, c15, ko16, c18, c19, c20, Try.results3]
end Go.E
end
section
set_option linter.all false
set_option maxRecDepth 100000
namespace Go.E
open Go Go.Proofs Go.Eng
variable {TB : Nat → Option Obj}
theorem m_law04_BoundOrder_ev (a0 : List TRow) (a1 : Int) (r0 : Bool) (h : m_law04_BoundOrder a0 a1 = some r0) (d : Nat) (G : Heap) : Tel Try.prog TB d 5 [.p (.sl (a0.map cTRow)), .p (.int .u8 a1)] G (.p (.bool r0)) (G) := by
  unfold m_law04_BoundOrder at h
  refine Tel.intro mix Try.func5 rfl (Nat.le_of_ble_eq_true rfl) {frzAt := fun t => t == 10 || t == 14 || t == 22 || t == 30 || t == 43, boxAt := fun t => if t = 1000038 then some 38 else if t = 1000042 then some 38 else none} (by kernel_rfl) (by kernel_rfl) ?_
  generalize hQ : callPost _ _ _ _ _ = Q
  obtain ⟨r1, hr1, h⟩ := bs h
  simp -implicitDefEqProofs only [go_sem, Nat.reduceEqDiff, Nat.reduceAdd, Nat.reduceLT, Nat.reduceLeDiff, Nat.reduceMul, Nat.reduceBEq, reduceIte]
  refine call_frz (r' := .p (.bool r1)) (args := []) (caps := []) (m_law04_awake_ev  r1 hr1 (d + 1) empty) (wkRs_refl []) rfl (by simp -implicitDefEqProofs only [go_sem, Nat.reduceEqDiff, Nat.reduceAdd, Nat.reduceLT, Nat.reduceLeDiff, Nat.reduceMul, Nat.reduceBEq, reduceIte]) (by simp -implicitDefEqProofs only [go_sem, Nat.reduceEqDiff, Nat.reduceAdd, Nat.reduceLT, Nat.reduceLeDiff, Nat.reduceMul, Nat.reduceBEq, reduceIte]) ?_ rfl rfl
  simp -implicitDefEqProofs only [go_sem, Nat.reduceEqDiff, Nat.reduceAdd, Nat.reduceLT, Nat.reduceLeDiff, Nat.reduceMul, Nat.reduceBEq, reduceIte]
  obtain ⟨v2, hz, h⟩ := bs h
  obtain ⟨R3, hR3⟩ : ∃ R : St → Prop, R = fun s => s.G = cut d G ∧ s.F 0 = .p (.sl (a0.map cTRow)) ∧ s.F 1 = .p (.int .u8 a1) ∧ s.F 21 = .p (.bool v2) ∧ True := ⟨_, rfl⟩
  refine cutR R3 ?_ ?_
  · replace h := hz
    rcases ib h with ⟨c4, h⟩ | ⟨c4, h⟩
    · cases h
      simp -implicitDefEqProofs only [go_sem, Nat.reduceEqDiff, Nat.reduceAdd, Nat.reduceLT, Nat.reduceLeDiff, Nat.reduceMul, Nat.reduceBEq, reduceIte, c4]
      rw [hR3]
      simp -implicitDefEqProofs only [go_sem, Nat.reduceEqDiff, Nat.reduceAdd, Nat.reduceLT, Nat.reduceLeDiff, Nat.reduceMul, Nat.reduceBEq, reduceIte, c4]
    · obtain ⟨r5, hr5, h⟩ := bs h
      simp -implicitDefEqProofs only [go_sem, Nat.reduceEqDiff, Nat.reduceAdd, Nat.reduceLT, Nat.reduceLeDiff, Nat.reduceMul, Nat.reduceBEq, reduceIte, c4]
      refine call_frz (r' := .p (.bool r5)) (m_law04_small_ev a0 r5 hr5 (d + 1) empty) (by simp -implicitDefEqProofs only [go_sem, Nat.reduceEqDiff, Nat.reduceAdd, Nat.reduceLT, Nat.reduceLeDiff, Nat.reduceMul, Nat.reduceBEq, reduceIte, c4]) rfl (by simp -implicitDefEqProofs only [go_sem, Nat.reduceEqDiff, Nat.reduceAdd, Nat.reduceLT, Nat.reduceLeDiff, Nat.reduceMul, Nat.reduceBEq, reduceIte]) (by simp -implicitDefEqProofs only [go_sem, Nat.reduceEqDiff, Nat.reduceAdd, Nat.reduceLT, Nat.reduceLeDiff, Nat.reduceMul, Nat.reduceBEq, reduceIte]) ?_ rfl rfl
      rcases ib h with ⟨c6, h⟩ | ⟨c6, h⟩
      · cases h
        simp -implicitDefEqProofs only [go_sem, Nat.reduceEqDiff, Nat.reduceAdd, Nat.reduceLT, Nat.reduceLeDiff, Nat.reduceMul, Nat.reduceBEq, reduceIte, c4, c6]
        rw [hR3]
        simp -implicitDefEqProofs only [go_sem, Nat.reduceEqDiff, Nat.reduceAdd, Nat.reduceLT, Nat.reduceLeDiff, Nat.reduceMul, Nat.reduceBEq, reduceIte, c4, c6]
      · cases h
        simp -implicitDefEqProofs only [go_sem, Nat.reduceEqDiff, Nat.reduceAdd, Nat.reduceLT, Nat.reduceLeDiff, Nat.reduceMul, Nat.reduceBEq, reduceIte, c4, c6]
        rw [hR3]
        simp -implicitDefEqProofs only [go_sem, Nat.reduceEqDiff, Nat.reduceAdd, Nat.reduceLT, Nat.reduceLeDiff, Nat.reduceMul, Nat.reduceBEq, reduceIte, c4, c6]
  · replace h := h; clear hz
    rintro s i
    rw [hR3] at i
    obtain ⟨gi7, i7⟩ := i
    clear hR3
    try dsimp only at h
    rcases ib h with ⟨c8, h⟩ | ⟨c8, h⟩
    · obtain ⟨r9, hr9, h⟩ := bs h
      simp -implicitDefEqProofs only [go_sem, Nat.reduceEqDiff, Nat.reduceAdd, Nat.reduceLT, Nat.reduceLeDiff, Nat.reduceMul, Nat.reduceBEq, reduceIte, gi7, i7, c8]
      try refine gCall_eta gi7 ?_
      refine call_frz (r' := .p (.bool r9)) (args := []) (caps := []) (m_law04_awake_ev  r9 hr9 (d + 1) empty) (wkRs_refl []) rfl (by simp -implicitDefEqProofs only [go_sem, Nat.reduceEqDiff, Nat.reduceAdd, Nat.reduceLT, Nat.reduceLeDiff, Nat.reduceMul, Nat.reduceBEq, reduceIte]) (by simp -implicitDefEqProofs only [go_sem, Nat.reduceEqDiff, Nat.reduceAdd, Nat.reduceLT, Nat.reduceLeDiff, Nat.reduceMul, Nat.reduceBEq, reduceIte]) ?_ rfl rfl
      cases h
      subst hQ
      simp -implicitDefEqProofs only [go_sem, Nat.reduceEqDiff, Nat.reduceAdd, Nat.reduceLT, Nat.reduceLeDiff, Nat.reduceMul, Nat.reduceBEq, reduceIte, gi7, i7, c8, Try.results5]
    · obtain ⟨_, c10, h⟩ := bs h
      replace c10 := rqs c10
      obtain ⟨r11, hr11, h⟩ := bs h
      simp -implicitDefEqProofs only [go_sem, Nat.reduceEqDiff, Nat.reduceAdd, Nat.reduceLT, Nat.reduceLeDiff, Nat.reduceMul, Nat.reduceBEq, reduceIte, gi7, i7, c8, c10]
      refine call_frz (r' := .tup [.p (.sl (r11.1.map cTRat)), .p (.int .i64 r11.2)]) (m_bound_Solve_ev a0 r11 hr11 (d + 1) empty) (by simp -implicitDefEqProofs only [go_sem, Nat.reduceEqDiff, Nat.reduceAdd, Nat.reduceLT, Nat.reduceLeDiff, Nat.reduceMul, Nat.reduceBEq, reduceIte, gi7, i7, c8, c10]) rfl (by simp -implicitDefEqProofs only [go_sem, Nat.reduceEqDiff, Nat.reduceAdd, Nat.reduceLT, Nat.reduceLeDiff, Nat.reduceMul, Nat.reduceBEq, reduceIte]) (by simp -implicitDefEqProofs only [go_sem, Nat.reduceEqDiff, Nat.reduceAdd, Nat.reduceLT, Nat.reduceLeDiff, Nat.reduceMul, Nat.reduceBEq, reduceIte]) ?_ rfl rfl
      obtain ⟨v12, hv12, h⟩ := bs h
      replace hv12 := subLs hv12
      obtain ⟨_, c13, h⟩ := bs h
      replace c13 := rqs c13
      simp -implicitDefEqProofs only [go_sem, Nat.reduceEqDiff, Nat.reduceAdd, Nat.reduceLT, Nat.reduceLeDiff, Nat.reduceMul, Nat.reduceBEq, reduceIte, gi7, i7, c8, c10, hv12, c13]
      refine append_G (o := none) (ts := [38]) (es := (([] : List TRow) : List TRow).map cTRow) (xs := (v12 : List TRow).map cTRow) (ho := by simp -implicitDefEqProofs only [go_sem, Nat.reduceEqDiff, Nat.reduceAdd, Nat.reduceLT, Nat.reduceLeDiff, Nat.reduceMul, Nat.reduceBEq, reduceIte]) (hG := by simp -implicitDefEqProofs only [go_sem, Nat.reduceEqDiff, Nat.reduceAdd, Nat.reduceLT, Nat.reduceLeDiff, Nat.reduceMul, Nat.reduceBEq, reduceIte, gi7, i7, c8, c10, hv12, c13]) (hj := by simp -implicitDefEqProofs only [go_sem, Nat.reduceEqDiff, Nat.reduceAdd, Nat.reduceLT, Nat.reduceLeDiff, Nat.reduceMul, Nat.reduceBEq, reduceIte]) (he := el22) (hx := by simp -implicitDefEqProofs only [go_sem, Nat.reduceEqDiff, Nat.reduceAdd, Nat.reduceLT, Nat.reduceLeDiff, Nat.reduceMul, Nat.reduceBEq, reduceIte, gi7, i7, c8, c10, hv12, c13]) (h1 := by simp -implicitDefEqProofs only [go_sem, Nat.reduceEqDiff, Nat.reduceAdd, Nat.reduceLT, Nat.reduceLeDiff, Nat.reduceMul, Nat.reduceBEq, reduceIte]) (h2 := by simp -implicitDefEqProofs only [go_sem, Nat.reduceEqDiff, Nat.reduceAdd, Nat.reduceLT, Nat.reduceLeDiff, Nat.reduceMul, Nat.reduceBEq, reduceIte]) (ha := rfl) (hra := rfl) (hb := by simpa using c13) (hbb := by decide) ?_
      intro o14 ko14
      obtain ⟨v15, hv15, h⟩ := bs h
      replace hv15 := subLs hv15
      obtain ⟨_, c16, h⟩ := bs h
      replace c16 := rqs c16
      simp -implicitDefEqProofs only [go_sem, Nat.reduceEqDiff, Nat.reduceAdd, Nat.reduceLT, Nat.reduceLeDiff, Nat.reduceMul, Nat.reduceBEq, reduceIte, gi7, i7, c8, c10, hv12, c13, ko14, hv15, c16, appG_grow (k := 38) ko14, appG_grow_p (k := 38) ko14]
      refine append_G (o := o14) (ts := [38, 42]) (es := ((([] : List TRow) ++ v12) : List TRow).map cTRow) (xs := (v15 : List TRow).map cTRow) (ho := growOK.sub ko14 (by decide)) (hG := by simp -implicitDefEqProofs only [go_sem, Nat.reduceEqDiff, Nat.reduceAdd, Nat.reduceLT, Nat.reduceLeDiff, Nat.reduceMul, Nat.reduceBEq, reduceIte, gi7, i7, c8, c10, hv12, c13, ko14, hv15, c16, growO_out (t := 42) ko14 (by decide)]) (hj := by simp -implicitDefEqProofs only [go_sem, Nat.reduceEqDiff, Nat.reduceAdd, Nat.reduceLT, Nat.reduceLeDiff, Nat.reduceMul, Nat.reduceBEq, reduceIte]) (he := el22) (hx := by simp -implicitDefEqProofs only [go_sem, Nat.reduceEqDiff, Nat.reduceAdd, Nat.reduceLT, Nat.reduceLeDiff, Nat.reduceMul, Nat.reduceBEq, reduceIte, gi7, i7, c8, c10, hv12, c13, ko14, hv15, c16]) (h1 := by simp -implicitDefEqProofs only [go_sem, Nat.reduceEqDiff, Nat.reduceAdd, Nat.reduceLT, Nat.reduceLeDiff, Nat.reduceMul, Nat.reduceBEq, reduceIte]) (h2 := by simp -implicitDefEqProofs only [go_sem, Nat.reduceEqDiff, Nat.reduceAdd, Nat.reduceLT, Nat.reduceLeDiff, Nat.reduceMul, Nat.reduceBEq, reduceIte]) (ha := rfl) (hra := rfl) (hb := by simpa using c16) (hbb := by decide) ?_
      intro o17 ko17
      obtain ⟨r18, hr18, h⟩ := bs h
      simp -implicitDefEqProofs only [go_sem, Nat.reduceEqDiff, Nat.reduceAdd, Nat.reduceLT, Nat.reduceLeDiff, Nat.reduceMul, Nat.reduceBEq, reduceIte, gi7, i7, c8, c10, hv12, c13, ko14, hv15, c16, ko17]
      refine call_frz (r' := .tup [.p (.sl (r18.1.map cTRat)), .p (.int .i64 r18.2)]) (m_bound_Solve_ev ((([] : List TRow) ++ v12) ++ v15) r18 hr18 (d + 1) empty) (by simp -implicitDefEqProofs only [go_sem, Nat.reduceEqDiff, Nat.reduceAdd, Nat.reduceLT, Nat.reduceLeDiff, Nat.reduceMul, Nat.reduceBEq, reduceIte, gi7, i7, c8, c10, hv12, c13, ko14, hv15, c16, ko17]) rfl (by simp -implicitDefEqProofs only [go_sem, Nat.reduceEqDiff, Nat.reduceAdd, Nat.reduceLT, Nat.reduceLeDiff, Nat.reduceMul, Nat.reduceBEq, reduceIte]) (by simp -implicitDefEqProofs only [go_sem, Nat.reduceEqDiff, Nat.reduceAdd, Nat.reduceLT, Nat.reduceLeDiff, Nat.reduceMul, Nat.reduceBEq, reduceIte]) ?_ rfl rfl
      rcases ib h with ⟨c19, h⟩ | ⟨c19, h⟩
      · cases h
        subst hQ
        simp -implicitDefEqProofs only [go_sem, Nat.reduceEqDiff, Nat.reduceAdd, Nat.reduceLT, Nat.reduceLeDiff, Nat.reduceMul, Nat.reduceBEq, reduceIte, gi7, i7, c8, c10, hv12, c13, ko14, hv15, c16, ko17, c19, Try.results5]
      · rcases ib h with ⟨c20, h⟩ | ⟨c20, h⟩
        · cases h
          subst hQ
          simp -implicitDefEqProofs only [go_sem, Nat.reduceEqDiff, Nat.reduceAdd, Nat.reduceLT, Nat.reduceLeDiff, Nat.reduceMul, Nat.reduceBEq, reduceIte, gi7, i7, c8, c10, hv12, c13, ko14, hv15, c16, ko17, c19, c20, Try.results5]
        · cases h
          subst hQ
          simp -implicitDefEqProofs only [go_sem, Nat.reduceEqDiff, Nat.reduceAdd, Nat.reduceLT, Nat.reduceLeDiff, Nat.reduceMul, Nat.reduceBEq, reduceIte, gi7, i7, c8, c10, hv12, c13, ko14, hv15, c16, ko17, c19, c20, Try.results5]
theorem m_law04_BoundItself_ev (a0 : List TRow) (a1 : Int) (r0 : Bool) (h : m_law04_BoundItself a0 a1 = some r0) (d : Nat) (G : Heap) : Tel Try.prog TB d 6 [.p (.sl (a0.map cTRow)), .p (.int .u8 a1)] G (.p (.bool r0)) (G) := by
  unfold m_law04_BoundItself at h
  refine Tel.intro mix Try.func6 rfl (Nat.le_of_ble_eq_true rfl) {frzAt := fun t => t == 5 || t == 9 || t == 17 || t == 27} (by kernel_rfl) (by kernel_rfl) ?_
  generalize hQ : callPost _ _ _ _ _ = Q
  obtain ⟨r1, hr1, h⟩ := bs h
  simp -implicitDefEqProofs only [go_sem, Nat.reduceEqDiff, Nat.reduceAdd, Nat.reduceLT, Nat.reduceLeDiff, Nat.reduceMul, Nat.reduceBEq, reduceIte]
  refine call_frz (r' := .p (.bool r1)) (args := []) (caps := []) (m_law04_awake_ev  r1 hr1 (d + 1) empty) (wkRs_refl []) rfl (by simp -implicitDefEqProofs only [go_sem, Nat.reduceEqDiff, Nat.reduceAdd, Nat.reduceLT, Nat.reduceLeDiff, Nat.reduceMul, Nat.reduceBEq, reduceIte]) (by simp -implicitDefEqProofs only [go_sem, Nat.reduceEqDiff, Nat.reduceAdd, Nat.reduceLT, Nat.reduceLeDiff, Nat.reduceMul, Nat.reduceBEq, reduceIte]) ?_ rfl rfl
  simp -implicitDefEqProofs only [go_sem, Nat.reduceEqDiff, Nat.reduceAdd, Nat.reduceLT, Nat.reduceLeDiff, Nat.reduceMul, Nat.reduceBEq, reduceIte]
  obtain ⟨v2, hz, h⟩ := bs h
  obtain ⟨R3, hR3⟩ : ∃ R : St → Prop, R = fun s => s.G = cut d G ∧ s.F 0 = .p (.sl (a0.map cTRow)) ∧ s.F 1 = .p (.int .u8 a1) ∧ s.F 16 = .p (.bool v2) ∧ True := ⟨_, rfl⟩
  refine cutR R3 ?_ ?_
  · replace h := hz
    rcases ib h with ⟨c4, h⟩ | ⟨c4, h⟩
    · cases h
      simp -implicitDefEqProofs only [go_sem, Nat.reduceEqDiff, Nat.reduceAdd, Nat.reduceLT, Nat.reduceLeDiff, Nat.reduceMul, Nat.reduceBEq, reduceIte, c4]
      rw [hR3]
      simp -implicitDefEqProofs only [go_sem, Nat.reduceEqDiff, Nat.reduceAdd, Nat.reduceLT, Nat.reduceLeDiff, Nat.reduceMul, Nat.reduceBEq, reduceIte, c4]
    · obtain ⟨r5, hr5, h⟩ := bs h
      simp -implicitDefEqProofs only [go_sem, Nat.reduceEqDiff, Nat.reduceAdd, Nat.reduceLT, Nat.reduceLeDiff, Nat.reduceMul, Nat.reduceBEq, reduceIte, c4]
      refine call_frz (r' := .p (.bool r5)) (m_law04_small_ev a0 r5 hr5 (d + 1) empty) (by simp -implicitDefEqProofs only [go_sem, Nat.reduceEqDiff, Nat.reduceAdd, Nat.reduceLT, Nat.reduceLeDiff, Nat.reduceMul, Nat.reduceBEq, reduceIte, c4]) rfl (by simp -implicitDefEqProofs only [go_sem, Nat.reduceEqDiff, Nat.reduceAdd, Nat.reduceLT, Nat.reduceLeDiff, Nat.reduceMul, Nat.reduceBEq, reduceIte]) (by simp -implicitDefEqProofs only [go_sem, Nat.reduceEqDiff, Nat.reduceAdd, Nat.reduceLT, Nat.reduceLeDiff, Nat.reduceMul, Nat.reduceBEq, reduceIte]) ?_ rfl rfl
      rcases ib h with ⟨c6, h⟩ | ⟨c6, h⟩
      · cases h
        simp -implicitDefEqProofs only [go_sem, Nat.reduceEqDiff, Nat.reduceAdd, Nat.reduceLT, Nat.reduceLeDiff, Nat.reduceMul, Nat.reduceBEq, reduceIte, c4, c6]
        rw [hR3]
        simp -implicitDefEqProofs only [go_sem, Nat.reduceEqDiff, Nat.reduceAdd, Nat.reduceLT, Nat.reduceLeDiff, Nat.reduceMul, Nat.reduceBEq, reduceIte, c4, c6]
      · cases h
        simp -implicitDefEqProofs only [go_sem, Nat.reduceEqDiff, Nat.reduceAdd, Nat.reduceLT, Nat.reduceLeDiff, Nat.reduceMul, Nat.reduceBEq, reduceIte, c4, c6]
        rw [hR3]
        simp -implicitDefEqProofs only [go_sem, Nat.reduceEqDiff, Nat.reduceAdd, Nat.reduceLT, Nat.reduceLeDiff, Nat.reduceMul, Nat.reduceBEq, reduceIte, c4, c6]
  · replace h := h; clear hz
    rintro s i
    rw [hR3] at i
    obtain ⟨gi7, i7⟩ := i
    clear hR3
    try dsimp only at h
    rcases ib h with ⟨c8, h⟩ | ⟨c8, h⟩
    · obtain ⟨r9, hr9, h⟩ := bs h
      simp -implicitDefEqProofs only [go_sem, Nat.reduceEqDiff, Nat.reduceAdd, Nat.reduceLT, Nat.reduceLeDiff, Nat.reduceMul, Nat.reduceBEq, reduceIte, gi7, i7, c8]
      try refine gCall_eta gi7 ?_
      refine call_frz (r' := .p (.bool r9)) (args := []) (caps := []) (m_law04_awake_ev  r9 hr9 (d + 1) empty) (wkRs_refl []) rfl (by simp -implicitDefEqProofs only [go_sem, Nat.reduceEqDiff, Nat.reduceAdd, Nat.reduceLT, Nat.reduceLeDiff, Nat.reduceMul, Nat.reduceBEq, reduceIte]) (by simp -implicitDefEqProofs only [go_sem, Nat.reduceEqDiff, Nat.reduceAdd, Nat.reduceLT, Nat.reduceLeDiff, Nat.reduceMul, Nat.reduceBEq, reduceIte]) ?_ rfl rfl
      cases h
      subst hQ
      simp -implicitDefEqProofs only [go_sem, Nat.reduceEqDiff, Nat.reduceAdd, Nat.reduceLT, Nat.reduceLeDiff, Nat.reduceMul, Nat.reduceBEq, reduceIte, gi7, i7, c8, Try.results6]
    · obtain ⟨_, c10, h⟩ := bs h
      replace c10 := rqs c10
      obtain ⟨v11, hv11, h⟩ := bs h
      replace hv11 := gis hv11
      obtain ⟨r12, hr12, h⟩ := bs h
      simp -implicitDefEqProofs only [go_sem, Nat.reduceEqDiff, Nat.reduceAdd, Nat.reduceLT, Nat.reduceLeDiff, Nat.reduceMul, Nat.reduceBEq, reduceIte, gi7, i7, c8, c10, hv11]
      refine call_frz (r' := .p (.int .i64 r12)) (m_bound_Entails_ev a0 v11 r12 hr12 (d + 1) empty) (by simp -implicitDefEqProofs only [go_sem, Nat.reduceEqDiff, Nat.reduceAdd, Nat.reduceLT, Nat.reduceLeDiff, Nat.reduceMul, Nat.reduceBEq, reduceIte, gi7, i7, c8, c10, hv11]) rfl (by simp -implicitDefEqProofs only [go_sem, Nat.reduceEqDiff, Nat.reduceAdd, Nat.reduceLT, Nat.reduceLeDiff, Nat.reduceMul, Nat.reduceBEq, reduceIte]) (by simp -implicitDefEqProofs only [go_sem, Nat.reduceEqDiff, Nat.reduceAdd, Nat.reduceLT, Nat.reduceLeDiff, Nat.reduceMul, Nat.reduceBEq, reduceIte]) ?_ rfl rfl
      cases h
      subst hQ
      simp -implicitDefEqProofs only [go_sem, Nat.reduceEqDiff, Nat.reduceAdd, Nat.reduceLT, Nat.reduceLeDiff, Nat.reduceMul, Nat.reduceBEq, reduceIte, gi7, i7, c8, c10, hv11, Try.results6]
end Go.E
end
section
set_option linter.all false
set_option maxRecDepth 10000
namespace Go.E
open Go Go.Proofs Go.Eng
def rr (r : TRat) : Bool := decide (BallQ.Right r.f0 r.f1)
def addR (a b : TRat) : TRat × Int := toR (addS a.f0 a.f1 b.f0 b.f1)
def mulR (a b : TRat) : TRat × Int := toR (mulS a.f0 a.f1 b.f0 b.f1)
def divR (a b : TRat) : TRat × Int := toR (divS a.f0 a.f1 b.f0 b.f1)
theorem rR {r : TRat} (h : in64R r) : m_rat_Right r = some (rr r) := by unfold m_rat_Right; rw [rq_true (decide_eq_true h)]; rfl
theorem aR {a b : TRat} (h : in64R a) (h' : in64R b) : m_rat_Add a b = some (addR a b) := by unfold m_rat_Add; rw [rq_true (decide_eq_true ⟨h, h'⟩)]; rfl
theorem mR {a b : TRat} (h : in64R a) (h' : in64R b) : m_rat_Mul a b = some (mulR a b) := by unfold m_rat_Mul; rw [rq_true (decide_eq_true ⟨h, h'⟩)]; rfl
theorem z64 : in64R ⟨0, 0⟩ := by decide
theorem n64 : in64R ⟨0, 1⟩ := by decide
theorem nR : rr ⟨0, 1⟩ = true := by decide +kernel
theorem out_good (x : Rat) : in64R (toR (BallQ.out x)).1 ∧ ((toR (BallQ.out x)).2 = 0 → rr (toR (BallQ.out x)).1 = true) ∧ ((toR (BallQ.out x)).2 = 0 ∨ (toR (BallQ.out x)).2 = 3) := by
  by_cases h : BallQ.fits x
  · rw [out_ok h]
    obtain ⟨h1, h2, h3⟩ := BallQ.right_fits h
    exact ⟨⟨h2, h3⟩, fun _ => decide_eq_true h1, .inl rfl⟩
  · rw [out_over h]
    exact ⟨z64, (fun e => by cases e), .inr rfl⟩
theorem err_good : in64R (toR (0, 0, 2)).1 ∧ ((toR (0, 0, 2)).2 = 0 → rr (toR (0, 0, 2)).1 = true) := ⟨z64, fun e => by cases e⟩
theorem add_good (a b : TRat) : in64R (addR a b).1 ∧ ((addR a b).2 = 0 → rr (addR a b).1 = true) := by
  unfold addR addS
  split
  · exact ⟨(out_good _).1, (out_good _).2.1⟩
  · exact err_good
theorem mul_good (a b : TRat) : in64R (mulR a b).1 ∧ ((mulR a b).2 = 0 → rr (mulR a b).1 = true) := by
  unfold mulR mulS
  split
  · exact ⟨(out_good _).1, (out_good _).2.1⟩
  · exact err_good
theorem div_good (a b : TRat) : in64R (divR a b).1 ∧ ((divR a b).2 = 0 → rr (divR a b).1 = true) := by
  unfold divR divS
  split
  · unfold mulS
    split
    · exact ⟨(out_good _).1, (out_good _).2.1⟩
    · exact err_good
  · exact err_good
theorem dR {a b : TRat} (h : in64R a) (h' : in64R b) : m_rat_Div a b = some (divR a b) := by
  unfold m_rat_Div
  rw [rR h, rR h']
  simp only [some_bind']
  unfold divR divS
  by_cases ha : BallQ.Right a.f0 a.f1
  · have ra : rr a = true := decide_eq_true ha
    by_cases hb : BallQ.Right b.f0 b.f1
    · have rb : rr b = true := decide_eq_true hb
      by_cases hz : b.f0 = 0
      · rw [if_neg (fun x => x.2.2 hz), ra, rb, decide_eq_true hz]; rfl
      · rw [if_pos ⟨ha, hb, hz⟩, ra, rb, decide_eq_false hz]
        obtain ⟨i0, i1, i2, _⟩ := inv_right hb h'.1 h'.2 hz
        obtain ⟨⟨n1, n2⟩, d1, d2⟩ := h'
        obtain ⟨b1, b2, _⟩ := hb
        simp only [Bool.not_true, ifB_false, some_bind']
        by_cases hneg : b.f0 < 0
        · rw [decide_eq_true hneg]
          have e1 : IntKind.wrap .i64 (0 - b.f1) = invN b.f0 b.f1 := by unfold invN; rw [if_pos hneg, wrap_i64 (by omega) (by omega)]; omega
          have e2 : IntKind.wrap .i64 (0 - b.f0) = (b.f0.natAbs : Int) := by rw [wrap_i64 (by omega) (by omega)]; omega
          simp only [ifB_true, some_bind']
          rw [e1, e2, mR h (b := ⟨invN b.f0 b.f1, (b.f0.natAbs : Int)⟩) ⟨i1, i2⟩]
          rfl
        · rw [decide_eq_false hneg]
          have e1 : b.f1 = invN b.f0 b.f1 := by unfold invN; rw [if_neg hneg]
          have e2 : b.f0 = (b.f0.natAbs : Int) := by omega
          simp only [ifB_false, some_bind']
          have := mR h (b := ⟨invN b.f0 b.f1, (b.f0.natAbs : Int)⟩) ⟨i1, i2⟩
          rw [← e1, ← e2] at this
          rw [this]
          simp only [some_bind']
          unfold mulR
          rw [← e1, ← e2]
    · have rb : rr b = false := decide_eq_false hb
      rw [if_neg (fun x => hb x.2.1), ra, rb]; rfl
  · have ra : rr a = false := decide_eq_false ha
    rw [if_neg (fun x => ha x.1), ra]; rfl
structure in64T (t : TTerm) : Prop where
  k : in64R t.f1
  c : ∀ r ∈ t.f0, in64R r
  len : t.f0.length ≤ 1000
def rt (t : TTerm) : Bool := decide (t.f0.length ≤ 8) && rr t.f1 && t.f0.all rr
theorem len8 {n : Nat} : decide ((n : Int) ≤ 8) = decide (n ≤ 8) := decide_eq_decide.2 (by omega)
theorem idxR {l : List TRat} {f : TRat → Option Bool} {g : TRat → Bool} (h : l.length ≤ 1000) (hf : ∀ o ∈ l, f o = some (g o)) : m_slices_ContainsFunc_api_Rat l f = some (l.any g) := by
  unfold m_slices_ContainsFunc_api_Rat m_slices_IndexFunc_api_Rat
  rw [show ((0 : Int)) = ((0 : Nat) : Int) from rfl, loopO_first (b := m_slices_IndexFunc_api_Rat_L0 l f) (fun i : Nat => (i : Int)) l.length (fun i => match l[i]? with | some o => g o | none => false) (fun i => (i : Int)) () ?_ ?_]
  · cases hq : fst l.length (fun i => match l[i]? with | some o => g o | none => false) with
    | none =>
      rw [fst_none] at hq
      have : l.any g = false := by
        rw [List.any_eq_false]
        intro x hx
        obtain ⟨i, hi, rfl⟩ := List.getElem_of_mem hx
        have := hq i hi
        rw [List.getElem?_eq_getElem hi] at this
        simpa using this
      rw [this]; rfl
    | some i =>
      obtain ⟨h1, h2⟩ := fst_some hq
      rw [List.getElem?_eq_getElem h1] at h2
      have : l.any g = true := List.any_eq_true.2 ⟨_, List.getElem_mem h1, h2⟩
      rw [this]
      simp only [some_bind']
      rw [decide_eq_true (show ((0 : Nat) : Int) ≤ (i : Int) by omega)]
  · intro i hi _
    unfold m_slices_IndexFunc_api_Rat_L0
    simp only [lt_cast, decide_eq_true hi, ifB_true, gi_of hi, some_bind', hf _ (List.getElem_mem hi), List.getElem?_eq_getElem hi]
    rw [wrap_succ (by omega)]
    cases g l[i] <;> rfl
  · intro _
    unfold m_slices_IndexFunc_api_Rat_L0
    simp only [lt_cast, Nat.lt_irrefl, decide_false, ifB_false]
theorem any_not {l : List TRat} : (!(l.any fun r => !rr r)) = l.all rr := by
  induction l with
  | nil => rfl
  | cons a l ih => simp only [List.any_cons, List.all_cons, Bool.not_or, Bool.not_not, ih]
theorem tR {t : TTerm} (h : in64T t) : m_term_Right t = some (rt t) := by
  unfold m_term_Right rt
  rw [len8, rR h.k]
  have hl := h.len
  rw [idxR (g := fun r => !rr r) hl fun r hr => by unfold m_term_Right_1; rw [rR (h.c r hr)]; rfl]
  simp only [some_bind', any_not]
  cases decide (t.f0.length ≤ 8) <;> cases rr t.f1 <;> rfl
def atT (t : TTerm) (i : Nat) : TRat := (t.f0[i]?).getD ⟨0, 1⟩
theorem at_in {t : TTerm} (h : in64T t) (i : Nat) : in64R (atT t i) := by
  unfold atT
  cases hq : t.f0[i]? with
  | none => exact n64
  | some r => exact h.c r (List.mem_of_getElem? hq)
theorem at_rr {t : TTerm} (h : rt t = true) (i : Nat) : rr (atT t i) = true := by
  unfold atT
  cases hq : t.f0[i]? with
  | none => exact nR
  | some r =>
    unfold rt at h
    simp only [Bool.and_eq_true] at h
    exact List.all_eq_true.1 h.2 r (List.mem_of_getElem? hq)
theorem atP {t : TTerm} {i : Nat} : m_term_At t (i : Int) = some (atT t i) := by
  unfold m_term_At m_term_nought atT
  rw [decide_eq_false (show ¬ (i : Int) < 0 by omega)]
  by_cases h : i < t.f0.length
  · rw [decide_eq_false (show ¬ (t.f0.length : Int) ≤ (i : Int) by omega), gi_of h, List.getElem?_eq_getElem h]; rfl
  · rw [decide_eq_true (show (t.f0.length : Int) ≤ (i : Int) by omega), List.getElem?_eq_none (by omega)]; rfl
def cutN (l : List TRat) : Nat → Nat
  | 0 => 0
  | n + 1 => match l[n]? with
    | some r => if r.f0 = 0 then cutN l n else n + 1
    | none => cutN l n
theorem cutN_le (l : List TRat) : ∀ n, cutN l n ≤ n
  | 0 => Nat.le_refl _
  | n + 1 => by
    unfold cutN
    have := cutN_le l n
    split
    · split <;> omega
    · omega
theorem cutN_succ {l : List TRat} {n : Nat} (h : n < l.length) : cutN l (n + 1) = if (l[n]).f0 = 0 then cutN l n else n + 1 := by
  show (match l[n]? with | some r => if r.f0 = 0 then cutN l n else n + 1 | none => cutN l n) = _
  rw [List.getElem?_eq_getElem h]
def trimT (t : TTerm) : TTerm := ⟨t.f0.take (cutN t.f0 t.f0.length), t.f1⟩
theorem subL_take {l : List TRat} {n : Nat} (h : n ≤ l.length) : subL l 0 (n : Int) = some (l.take n) := by
  unfold subL
  simp [h]
theorem trimP {t : TTerm} (h : t.f0.length ≤ 1000) : m_term_trim t = some (trimT t) := by
  unfold m_term_trim
  have main : ∀ n, n ≤ t.f0.length → loopO (m_term_trim_L0 t) (n : Int) = some ((cutN t.f0 n : Nat) : Int) := by
    intro n
    induction n with
    | zero =>
      intro _
      refine loopO_inr ?_
      rfl
    | succ n ih =>
      intro hn
      have hlt : n < t.f0.length := by omega
      have e1 : IntKind.wrap .i64 (((n + 1 : Nat) : Int) - 1) = (n : Int) := by rw [wrap_i64 (by omega) (by omega)]; omega
      have hb : m_term_trim_L0 t ((n + 1 : Nat) : Int) = if (t.f0[n]).f0 = 0 then some (.inl (n : Int)) else some (.inr ((n + 1 : Nat) : Int)) := by
        unfold m_term_trim_L0
        dsimp only
        rw [decide_eq_true (show (0 : Int) < ((n + 1 : Nat) : Int) by omega), ifB_true, e1, gi_of hlt]
        simp only [some_bind']
        by_cases hz : (t.f0[n]).f0 = 0
        · rw [if_pos hz, decide_eq_true hz]; rfl
        · rw [if_neg hz, decide_eq_false hz]; rfl
      rw [cutN_succ hlt]
      by_cases hz : (t.f0[n]).f0 = 0
      · rw [if_pos hz]
        rw [if_pos hz] at hb
        rw [loopO_inl hb]
        exact ih (by omega)
      · rw [if_neg hz]
        rw [if_neg hz] at hb
        exact loopO_inr hb
  rw [main _ (Nat.le_refl _)]
  have hc := cutN_le t.f0 t.f0.length
  simp only [some_bind', subL_take hc]
  unfold m_slices_Clone_api_Rat
  rw [rq_true (decide_eq_true (by rw [List.length_take]; omega))]
  rfl
def ownT (t : TTerm) : TTerm := if rt t then trimT t else ⟨[], ⟨0, 1⟩⟩
theorem ownP {t : TTerm} (h : in64T t) : m_term_Own t = some (ownT t) := by
  unfold m_term_Own m_term_nought ownT
  rw [tR h]
  simp only [some_bind']
  cases rt t with
  | false => rfl
  | true =>
    simp only [Bool.not_true, ifB_false, trimP h.len, some_bind']
    rfl
end Go.E
end
section
set_option linter.all false
set_option maxRecDepth 10000
namespace Go.E
open Go Go.Proofs Go.Eng
abbrev zT : TTerm := ⟨[], ⟨0, 0⟩⟩
def lst (f : Nat → TRat × Int) (n : Nat) : List TRat := (List.range n).map fun i => (f i).1
theorem lst_succ {f : Nat → TRat × Int} {n : Nat} : lst f (n + 1) = lst f n ++ [(f n).1] := by
  unfold lst; rw [List.range_succ, List.map_append]; rfl
theorem lst_len {f : Nat → TRat × Int} {n : Nat} : (lst f n).length = n := by unfold lst; simp
def bad (f : Nat → TRat × Int) (i : Nat) : Bool := !decide ((f i).2 = 0)
def eachT (k : TRat × Int) (f : Nat → TRat × Int) (n : Nat) : TTerm × Int := if k.2 = 0 then (match fst n (bad f) with | some i => (zT, (f i).2) | none => (trimT ⟨lst f n, k.1⟩, 0)) else (zT, k.2)
theorem eachP {n : Nat} {g : Int → Option (TRat × Int)} {k : TRat × Int} {f : Nat → TRat × Int} (h : n ≤ 1000) (hk : g (-1) = some k) (hf : ∀ i : Nat, i < n → g (i : Int) = some (f i)) : m_term_each (n : Int) g = some (eachT k f n) := by
  unfold m_term_each
  have en : IntKind.wrap .i64 ((n : Int) + 1) = ((n + 1 : Nat) : Int) := wrap_succ (by omega)
  have first : m_term_each_L0 (n : Int) g (0, [], 0, 0) = if k.2 = 0 then some (.inl (1, [], k.1.f0, k.1.f1)) else some (.inr (.inr (zT, k.2))) := by
    unfold m_term_each_L0
    dsimp only
    rw [en, decide_eq_true (show (0 : Int) < ((n + 1 : Nat) : Int) by omega), ifB_true, show IntKind.wrap .i64 ((0 : Int) - 1) = -1 from rfl, hk]
    simp only [some_bind']
    by_cases hz : k.2 = 0
    · rw [if_pos hz, decide_eq_true hz]; rfl
    · rw [if_neg hz, decide_eq_false hz]; rfl
  unfold eachT
  by_cases hz : k.2 = 0
  · rw [if_pos hz] at first ⊢
    rw [loopO_inl first]
    have key : loopO (m_term_each_L0 (n : Int) g) (1, [], k.1.f0, k.1.f1) = some (match fst n (bad f) with | some i => .inr (zT, (f i).2) | none => .inl (lst f n, k.1.f0, k.1.f1)) := by
      have := loopO_first (b := m_term_each_L0 (n : Int) g) (fun i : Nat => (((i + 1 : Nat) : Int), lst f i, k.1.f0, k.1.f1)) n (bad f) (fun i => (zT, (f i).2)) (lst f n, k.1.f0, k.1.f1) ?_ ?_
      · exact this
      · intro i hi _
        unfold m_term_each_L0
        dsimp only
        have e1 : IntKind.wrap .i64 (((i + 1 : Nat) : Int) - 1) = (i : Int) := by rw [wrap_i64 (by omega) (by omega)]; omega
        rw [en, decide_eq_true (show ((i + 1 : Nat) : Int) < ((n + 1 : Nat) : Int) by omega), ifB_true, e1, hf i hi]
        simp only [some_bind']
        unfold bad
        by_cases hz : (f i).2 = 0
        · rw [decide_eq_true hz, decide_eq_false (show ¬ ((i + 1 : Nat) : Int) = 0 by omega)]
          simp only [Bool.not_true, ifB_false]
          rw [rq_true (decide_eq_true (by rw [lst_len]; simp; omega)), wrap_succ (by omega), ← lst_succ]
          rfl
        · rw [decide_eq_false hz]; rfl
      · intro _
        unfold m_term_each_L0
        dsimp only
        rw [en, decide_eq_false (show ¬ ((n + 1 : Nat) : Int) < ((n + 1 : Nat) : Int) by omega)]
        rfl
    rw [key]
    cases fst n (bad f) with
    | some i => rfl
    | none =>
      simp only [some_bind']
      rw [trimP (t := ⟨lst f n, ⟨k.1.f0, k.1.f1⟩⟩) (by dsimp only; rw [lst_len]; omega)]
      rfl
  · rw [if_neg hz] at first ⊢
    rw [loopO_inr first]
    rfl
def addT (a b : TTerm) : TTerm × Int := if rt a && rt b then eachT (addR a.f1 b.f1) (fun i => addR (atT a i) (atT b i)) (max a.f0.length b.f0.length) else (zT, 2)
def mulT (a : TTerm) (r : TRat) : TTerm × Int := if rt a && rr r then eachT (mulR a.f1 r) (fun i => mulR (atT a i) r) a.f0.length else (zT, 2)
theorem oneP {t : TTerm} {i : Nat} : m_term_one t (i : Int) = some (atT t i) := by
  unfold m_term_one
  rw [decide_eq_false (show ¬ (i : Int) < 0 by omega), atP]; rfl
theorem one1 {t : TTerm} : m_term_one t (-1) = some t.f1 := rfl
theorem addP {a b : TTerm} (ha : in64T a) (hb : in64T b) : m_term_Add a b = some (addT a b) := by
  unfold m_term_Add addT
  rw [tR ha, tR hb]
  simp only [some_bind']
  cases h1 : rt a with
  | false => rfl
  | true =>
    cases h2 : rt b with
    | false => rfl
    | true =>
      simp only [Bool.not_true, ifB_false, some_bind', Bool.and_self, if_true]
      have em : (if (a.f0.length : Int) < (b.f0.length : Int) then (b.f0.length : Int) else (a.f0.length : Int)) = ((max a.f0.length b.f0.length : Nat) : Int) := by split <;> omega
      have la := ha.len
      have lb := hb.len
      rw [em, eachP (k := addR a.f1 b.f1) (f := fun i => addR (atT a i) (atT b i)) (by omega) ?_ ?_]
      · rfl
      · unfold m_term_Add_1
        rw [one1, one1]
        simp only [some_bind', aR ha.k hb.k]
      · intro i _
        unfold m_term_Add_1
        rw [oneP, oneP]
        simp only [some_bind', aR (at_in ha i) (at_in hb i)]
theorem scaleP {a : TTerm} {r : TRat} (ha : in64T a) (hr : in64R r) : m_term_Scale a r = some (mulT a r) := by
  unfold m_term_Scale mulT
  rw [tR ha, rR hr]
  simp only [some_bind']
  cases h1 : rt a with
  | false => rfl
  | true =>
    cases h2 : rr r with
    | false => rfl
    | true =>
      simp only [Bool.not_true, ifB_false, some_bind', Bool.and_self, if_true]
      have la := ha.len
      rw [eachP (k := mulR a.f1 r) (f := fun i => mulR (atT a i) r) (by omega) ?_ ?_]
      · rfl
      · unfold m_term_Scale_1
        rw [one1]
        simp only [some_bind', mR ha.k hr]
      · intro i _
        unfold m_term_Scale_1
        rw [oneP]
        simp only [some_bind', mR (at_in ha i) hr]
theorem lst_in {f : Nat → TRat × Int} {k : TRat} {n : Nat} (h : n ≤ 1000) (hk : in64R k) (hf : ∀ i, in64R (f i).1) : in64T ⟨lst f n, k⟩ :=
  ⟨hk, fun r hr => by unfold lst at hr; obtain ⟨i, _, rfl⟩ := List.mem_map.1 hr; exact hf i, by dsimp only; rw [lst_len]; exact h⟩
theorem lst_rt {f : Nat → TRat × Int} {k : TRat} {n : Nat} (h : n ≤ 8) (hk : rr k = true) (hf : ∀ i, i < n → rr (f i).1 = true) : rt ⟨lst f n, k⟩ = true := by
  unfold rt
  dsimp only
  rw [lst_len, decide_eq_true h, hk]
  simp only [Bool.and_self, Bool.true_and]
  rw [List.all_eq_true]
  intro r hr
  unfold lst at hr
  obtain ⟨i, hi, rfl⟩ := List.mem_map.1 hr
  exact hf i (List.mem_range.1 hi)
theorem rt_len {t : TTerm} (h : rt t = true) : t.f0.length ≤ 8 := by
  unfold rt at h
  simp only [Bool.and_eq_true, decide_eq_true_eq] at h
  exact h.1.1
theorem trim_in {t : TTerm} (h : in64T t) : in64T (trimT t) := by
  refine ⟨h.k, fun r hr => h.c r (List.mem_of_mem_take hr), ?_⟩
  have := h.len
  unfold trimT
  dsimp only
  rw [List.length_take]; omega
theorem trim_rt {t : TTerm} (h : rt t = true) : rt (trimT t) = true := by
  unfold rt at h ⊢
  simp only [Bool.and_eq_true, decide_eq_true_eq, List.all_eq_true] at h ⊢
  refine ⟨⟨?_, h.1.2⟩, fun r hr => h.2 r (List.mem_of_mem_take hr)⟩
  unfold trimT
  dsimp only
  rw [List.length_take]; omega
theorem z_in : in64T zT := ⟨z64, (fun _ h => by cases h), Nat.zero_le _⟩
theorem each_good {k : TRat × Int} {f : Nat → TRat × Int} {n : Nat} (h : n ≤ 8) (hk : in64R k.1 ∧ (k.2 = 0 → rr k.1 = true)) (hf : ∀ i, in64R (f i).1 ∧ ((f i).2 = 0 → rr (f i).1 = true)) :
    in64T (eachT k f n).1 ∧ ((eachT k f n).2 = 0 → rt (eachT k f n).1 = true) := by
  unfold eachT
  by_cases hz : k.2 = 0
  · rw [if_pos hz]
    cases hq : fst n (bad f) with
    | some i =>
      have := (fst_some hq).2
      unfold bad at this
      simp at this
      exact ⟨z_in, fun e => absurd e this⟩
    | none =>
      have hb0 := fst_none.1 hq
      exact ⟨trim_in (lst_in (by omega) hk.1 fun i => (hf i).1), fun _ => trim_rt (lst_rt h (hk.2 hz) fun i hi => (hf i).2 (by have := hb0 i hi; unfold bad at this; simpa using this))⟩
  · rw [if_neg hz]
    exact ⟨z_in, fun e => absurd e hz⟩
theorem addT_good {a b : TTerm} : in64T (addT a b).1 ∧ ((addT a b).2 = 0 → rt (addT a b).1 = true) := by
  unfold addT
  split
  · rename_i h
    simp only [Bool.and_eq_true] at h
    have := rt_len h.1
    have := rt_len h.2
    exact each_good (by omega) (add_good _ _) fun i => add_good _ _
  · exact ⟨z_in, fun e => by cases e⟩
theorem mulT_good {a : TTerm} {r : TRat} : in64T (mulT a r).1 ∧ ((mulT a r).2 = 0 → rt (mulT a r).1 = true) := by
  unfold mulT
  split
  · rename_i h
    simp only [Bool.and_eq_true] at h
    have := rt_len h.1
    exact each_good (by omega) (mul_good _ _) fun i => mul_good _ _
  · exact ⟨z_in, fun e => by cases e⟩
end Go.E
end
section
set_option linter.all false
set_option maxRecDepth 10000
namespace Go.E
open Go Go.Proofs Go.Eng
def mkL {α : Type} (n : Nat) (f : Nat → α) : List α := (List.range n).map f
theorem mk_len {α : Type} {n : Nat} {f : Nat → α} : (mkL n f).length = n := by unfold mkL; simp
theorem mk_at {α : Type} {n i : Nat} {f : Nat → α} (h : i < n) : (mkL n f)[i]? = some (f i) := by unfold mkL; simp [h]
theorem mk_gi {α : Type} {n i : Nat} {f : Nat → α} (h : i < n) : gi (mkL n f) (i : Int) = some (f i) := by rw [gi_nat, mk_at h]
theorem mk_congr {α : Type} {n : Nat} {f g : Nat → α} (h : ∀ i, i < n → f i = g i) : mkL n f = mkL n g := by
  unfold mkL
  exact List.map_congr_left fun i hi => h i (List.mem_range.1 hi)
theorem mk_set {α : Type} {n i : Nat} {f : Nat → α} {x : α} : (mkL n f).set i x = mkL n fun j => if j = i then x else f j := by
  apply List.ext_getElem?
  intro j
  by_cases hj : j < n
  · rw [mk_at hj, List.getElem?_set, mk_at hj, mk_len]
    by_cases h : i = j
    · subst h; simp [hj]
    · have : ¬ j = i := fun e => h e.symm
      simp [h, this]
  · rw [List.getElem?_eq_none (by rw [List.length_set, mk_len]; omega), List.getElem?_eq_none (by rw [mk_len]; omega)]
abbrev Row := TGauss_row
def rowAt (l : List Row) (i : Nat) : Row := (l[i]?).getD ⟨zT, -1⟩
theorem row_of {l : List Row} {i : Nat} (h : i < l.length) : l[i] = rowAt l i := by unfold rowAt; rw [List.getElem?_eq_getElem h]; rfl
theorem row_gi {l : List Row} {i : Nat} (h : i < l.length) : gi l (i : Int) = some (rowAt l i) := by rw [gi_of h, row_of h]
theorem row_mk {n i : Nat} {f : Nat → Row} (h : i < n) : rowAt (mkL n f) i = f i := by unfold rowAt; rw [mk_at h]; rfl
theorem mk_self {l : List Row} : mkL l.length (rowAt l) = l := by
  apply List.ext_getElem?
  intro j
  by_cases hj : j < l.length
  · rw [mk_at hj, List.getElem?_eq_getElem hj, row_of hj]
  · rw [List.getElem?_eq_none (by rw [mk_len]; omega), List.getElem?_eq_none (by omega)]
def goodL (l : List Row) : Prop := ∀ i, in64T (rowAt l i).f0
def neg (c : TRat) : TRat := ⟨IntKind.wrap .i64 (0 - c.f0), c.f1⟩
theorem neg_in {c : TRat} (h : in64R c) : in64R (neg c) := by
  refine ⟨?_, h.2⟩
  unfold neg
  constructor
  · dsimp only; rw [IntKind.wrap_i64]; omega
  · dsimp only; rw [IntKind.wrap_i64]; omega
def lessT (a p : TTerm) (c : TRat) : TTerm × Int := if (mulT p (neg c)).2 = 0 then addT a (mulT p (neg c)).1 else (zT, (mulT p (neg c)).2)
theorem lessT_in {a p : TTerm} {c : TRat} : in64T (lessT a p c).1 := by
  unfold lessT; split
  · exact addT_good.1
  · exact z_in
def skip (rows : List Row) (a v i : Nat) : Bool := decide (i = a) || decide ((atT (rowAt rows i).f0 v).f0 = 0)
def lessAt (rows : List Row) (p : TTerm) (v i : Nat) : TTerm × Int := lessT (rowAt rows i).f0 p (atT (rowAt rows i).f0 v)
def newR (rows : List Row) (p : TTerm) (a v i : Nat) : Row := if i = a then ⟨p, (v : Int)⟩ else if skip rows a v i then rowAt rows i else ⟨(lessAt rows p v i).1, (rowAt rows i).f1⟩
def badR (rows : List Row) (p : TTerm) (a v i : Nat) : Bool := !skip rows a v i && !decide ((lessAt rows p v i).2 = 0)
def invT (rows : List Row) (a v : Nat) : TRat × Int := divR ⟨1, 1⟩ (atT (rowAt rows a).f0 v)
def pivT (rows : List Row) (a v : Nat) : TTerm × Int := mulT (rowAt rows a).f0 (invT rows a v).1
def pivB (rows : List Row) (a v : Nat) : Bool := decide ((invT rows a v).2 = 0) && decide ((pivT rows a v).2 = 0)
def takeP (rows : List Row) (a v : Nat) : Option (List Row) :=
  if pivB rows a v then (match fst rows.length (badR rows (pivT rows a v).1 a v) with | some _ => none | none => some (mkL rows.length (newR rows (pivT rows a v).1 a v))) else none
theorem new_good {rows : List Row} {a v : Nat} (h : goodL rows) {i : Nat} : in64T (newR rows (pivT rows a v).1 a v i).f0 := by
  unfold newR
  split
  · exact mulT_good.1
  · split
    · exact h i
    · exact lessT_in
theorem mkL_good {n : Nat} {f : Nat → Row} (h : ∀ i, in64T (f i).f0) : goodL (mkL n f) := by
  intro i
  by_cases hi : i < n
  · rw [row_mk hi]; exact h i
  · unfold rowAt; rw [List.getElem?_eq_none (by rw [mk_len]; omega)]; exact z_in
theorem take_good {rows r : List Row} {a v : Nat} (h : goodL rows) (e : takeP rows a v = some r) : goodL r ∧ r.length = rows.length := by
  unfold takeP at e
  split at e
  · split at e
    · cases e
    · cases e; exact ⟨mkL_good fun i => new_good h, mk_len⟩
  · cases e
theorem keepP {s : TGauss_system} {t : TTerm} {e : Int} : m_gauss_system_keep s t e = some (t, ⟨s.f0, s.f1 || !decide (e = 0)⟩) := by
  unfold m_gauss_system_keep
  cases s.f1 <;> rfl
theorem timesP {s : TGauss_system} {t : TTerm} {r : TRat} (ht : in64T t) (hr : in64R r) : m_gauss_system_times s t r = some ((mulT t r).1, ⟨s.f0, s.f1 || !decide ((mulT t r).2 = 0)⟩) := by
  unfold m_gauss_system_times
  rw [scaleP ht hr]
  simp only [some_bind', keepP]
theorem over_loop {s : TGauss_system} {a2 a1 : Nat} {r : TTerm × TGauss_system} {l : List Row} (hl : l.length = s.f0.length) (hb : s.f0.length ≤ 1000) : ∀ k i : Nat, i + k = s.f0.length → loopO (m_gauss_system_take_L0 s a2 a1 r) ((i : Int), true, l) = some (true, l) := by
  intro k
  induction k with
  | zero =>
    intro i hi
    refine loopO_inr ?_
    unfold m_gauss_system_take_L0
    dsimp only
    rw [decide_eq_false (by omega)]; rfl
  | succ k ih =>
    intro i hi
    have hb : m_gauss_system_take_L0 s a2 a1 r ((i : Int), true, l) = some (.inl (((i + 1 : Nat) : Int), true, l)) := by
      unfold m_gauss_system_take_L0
      dsimp only
      rw [decide_eq_true (show (i : Int) < (s.f0.length : Int) by omega), ifB_true, rq_true (decide_eq_true (by omega)), rq_true (decide_eq_true (by omega)), row_gi (by omega)]
      simp only [some_bind', atP]
      have : (ifB (decide ((i : Int) = (a1 : Int))) (some true) (ifB (decide ((atT (rowAt l i).f0 a2).f0 = 0)) (some true) (some true)) : Option Bool) = some true := by
        cases decide ((i : Int) = (a1 : Int)) <;> cases decide ((atT (rowAt l i).f0 a2).f0 = 0) <;> rfl
      rw [this]
      simp only [some_bind', ifB_true]
      rw [wrap_succ (by omega)]
    rw [loopO_inl hb]
    exact ih (i + 1) (by omega)
theorem take_loop {rows : List Row} {a v : Nat} (ha : a < rows.length) (hg : goodL rows) (hb : rows.length ≤ 1000) {p : TTerm} (hp : in64T p) {sy : TGauss_system} :
    ∀ k i : Nat, i + k = rows.length → (∃ l', loopO (m_gauss_system_take_L0 ⟨rows, false⟩ (v : Int) (a : Int) (p, sy)) ((i : Int), false, mkL rows.length fun j => if j < i then newR rows p a v j else if j = a then ⟨p, (v : Int)⟩ else rowAt rows j) =
      some (!(List.range' i k).all (fun j => !badR rows p a v j), l') ∧ l'.length = rows.length ∧ ((List.range' i k).all (fun j => !badR rows p a v j) = true → l' = mkL rows.length (newR rows p a v))) := by
  intro k
  induction k with
  | zero =>
    intro i hi
    refine ⟨_, loopO_inr (x := (false, mkL rows.length fun j => if j < i then newR rows p a v j else if j = a then ⟨p, (v : Int)⟩ else rowAt rows j)) ?_, mk_len, fun _ => mk_congr fun j hj => if_pos (by omega)⟩
    unfold m_gauss_system_take_L0
    dsimp only
    rw [decide_eq_false (by omega)]; rfl
  | succ k ih =>
    intro i hi
    obtain ⟨cur, hcur⟩ : ∃ cur, cur = mkL rows.length fun j => if j < i then newR rows p a v j else if j = a then ⟨p, (v : Int)⟩ else rowAt rows j := ⟨_, rfl⟩
    have hil : i < rows.length := by omega
    have hc : gi cur (i : Int) = some (if i = a then ⟨p, (v : Int)⟩ else rowAt rows i) := by rw [hcur, mk_gi hil, if_neg (Nat.lt_irrefl i)]
    have cl : cur.length = rows.length := by rw [hcur, mk_len]
    rw [← hcur, List.range'_succ, List.all_cons]
    have next : ∀ {x : Row}, newR rows p a v i = x → mkL rows.length (fun j => if j < i + 1 then newR rows p a v j else if j = a then ⟨p, (v : Int)⟩ else rowAt rows j) = cur.set i x := by
      intro x hx
      rw [hcur, mk_set]
      refine mk_congr fun j hj => ?_
      by_cases h1 : j = i
      · subst h1; rw [if_pos (by omega), if_pos rfl, hx]
      · rw [if_neg h1]
        by_cases h2 : j < i
        · rw [if_pos (by omega), if_pos h2]
        · rw [if_neg (by omega), if_neg h2]
    have nsk : skip rows a v i = true → cur.set i (newR rows p a v i) = cur := by
      intro h
      rw [hcur, mk_set]
      refine mk_congr fun j hj => ?_
      by_cases h1 : j = i
      · subst h1
        rw [if_pos rfl, if_neg (Nat.lt_irrefl _)]
        unfold newR
        by_cases h2 : j = a
        · rw [if_pos h2, if_pos h2]
        · rw [if_neg h2, if_neg h2, if_pos h]
      · rw [if_neg h1]
    have start : m_gauss_system_take_L0 ⟨rows, false⟩ (v : Int) (a : Int) (p, sy) ((i : Int), false, cur) = (if skip rows a v i then some (.inl (((i + 1 : Nat) : Int), false, cur)) else
        (if (mulT p (neg (atT (rowAt rows i).f0 v))).2 = 0 then some (.inl (((i + 1 : Nat) : Int), !decide ((lessAt rows p v i).2 = 0), cur.set i ⟨(lessAt rows p v i).1, (rowAt rows i).f1⟩)) else some (.inl (((i + 1 : Nat) : Int), true, cur)))) := by
      unfold m_gauss_system_take_L0
      dsimp only
      rw [decide_eq_true (show (i : Int) < (rows.length : Int) by omega), ifB_true, rq_true (decide_eq_true (by omega)), rq_true (decide_eq_true (by omega)), hc]
      simp only [some_bind', atP]
      unfold skip
      by_cases h1 : i = a
      · rw [decide_eq_true (show (i : Int) = (a : Int) by omega), decide_eq_true h1]
        simp only [ifB_true, some_bind', Bool.true_or, if_true]
        rw [wrap_succ (by omega)]
      · rw [decide_eq_false (show ¬ (i : Int) = (a : Int) by omega), decide_eq_false h1, if_neg h1]
        simp only [ifB_false, Bool.false_or]
        by_cases h2 : (atT (rowAt rows i).f0 v).f0 = 0
        · rw [decide_eq_true h2]
          simp only [ifB_true, some_bind', if_true]
          rw [wrap_succ (by omega)]
        · rw [decide_eq_false h2]
          have hn : in64R (⟨IntKind.wrap .i64 (0 - (atT (rowAt rows i).f0 v).f0), (atT (rowAt rows i).f0 v).f1⟩ : TRat) := neg_in (at_in (hg i) v)
          simp only [ifB_false, some_bind', Bool.false_eq_true, if_false, timesP hp hn, Bool.false_or]
          show _ = (if (mulT p (neg (atT (rowAt rows i).f0 v))).2 = 0 then _ else _)
          have e0 : (⟨IntKind.wrap .i64 (0 - (atT (rowAt rows i).f0 v).f0), (atT (rowAt rows i).f0 v).f1⟩ : TRat) = neg (atT (rowAt rows i).f0 v) := rfl
          rw [e0]
          by_cases h3 : (mulT p (neg (atT (rowAt rows i).f0 v))).2 = 0
          · rw [decide_eq_true h3, if_pos h3]
            simp only [Bool.not_true, Bool.not_false, ifB_true, addP (hg i) mulT_good.1, some_bind', keepP, Bool.false_or, hc, if_neg h1]
            rw [wrap_succ (by omega)]
            unfold lessAt lessT
            rw [if_pos h3]
            rfl
          · rw [decide_eq_false h3, if_neg h3]
            simp only [Bool.not_false, Bool.not_true, ifB_false, some_bind']
            rw [wrap_succ (by omega)]
    have bad0 : badR rows p a v i = (!skip rows a v i && !decide ((lessAt rows p v i).2 = 0)) := rfl
    cases hs : skip rows a v i with
    | true =>
      rw [hs, if_pos rfl] at start
      rw [loopO_inl start]
      have e1 := next (x := newR rows p a v i) rfl
      rw [nsk hs] at e1
      rw [hs] at bad0
      rw [bad0, ← e1]
      exact ih (i + 1) (by omega)
    | false =>
      rw [hs, if_neg (by decide)] at start
      rw [hs] at bad0
      by_cases h3 : (mulT p (neg (atT (rowAt rows i).f0 v))).2 = 0
      · rw [if_pos h3] at start
        rw [loopO_inl start]
        by_cases h4 : (lessAt rows p v i).2 = 0
        · rw [decide_eq_true h4] at bad0 ⊢
          have e1 := next (x := ⟨(lessAt rows p v i).1, (rowAt rows i).f1⟩) (by
            unfold newR
            have : ¬ i = a := by intro e; unfold skip at hs; simp [e] at hs
            rw [if_neg this, hs]; rfl)
          rw [bad0, ← e1]
          exact ih (i + 1) (by omega)
        · rw [decide_eq_false h4] at bad0 ⊢
          rw [bad0]
          refine ⟨cur.set i ⟨(lessAt rows p v i).1, (rowAt rows i).f1⟩, over_loop (s := ⟨rows, false⟩) (by rw [List.length_set, cl]) hb k (i + 1) (by dsimp only; omega), by rw [List.length_set, cl], fun h => by simp at h⟩
      · rw [if_neg h3] at start
        rw [loopO_inl start]
        have h4 : ¬ (lessAt rows p v i).2 = 0 := by unfold lessAt lessT; rw [if_neg h3]; exact h3
        rw [decide_eq_false h4] at bad0
        rw [bad0]
        exact ⟨cur, over_loop (s := ⟨rows, false⟩) cl hb k (i + 1) (by dsimp only; omega), cl, fun h => by simp at h⟩
theorem i1 : in64R ⟨1, 1⟩ := by decide
theorem takeE {rows : List Row} {a v : Nat} (ha : a < rows.length) (hg : goodL rows) (hb : rows.length ≤ 1000) :
    ∃ s, m_gauss_system_take ⟨rows, false⟩ (a : Int) (v : Int) = some s ∧ s.f0.length = rows.length ∧ (match takeP rows a v with | some r => s = ⟨r, false⟩ | none => s.f1 = true) := by
  unfold m_gauss_system_take
  dsimp only
  rw [rq_true (decide_eq_true (by omega)), rq_true (decide_eq_true (by omega)), row_gi ha]
  simp only [some_bind', atP, dR i1 (at_in (hg a) v), ifB_false]
  rw [timesP (hg a) (div_good _ _).1]
  simp only [some_bind', row_gi ha]
  have hset : rows.set a ⟨(pivT rows a v).1, (v : Int)⟩ = mkL rows.length fun j => if j < 0 then newR rows (pivT rows a v).1 a v j else if j = a then ⟨(pivT rows a v).1, (v : Int)⟩ else rowAt rows j := by
    have := mk_self (l := rows)
    rw [← this, mk_set, mk_len]
    refine mk_congr fun j hj => ?_
    rw [if_neg (Nat.not_lt_zero j), this]
  show ∃ s, (Option.bind (loopO (m_gauss_system_take_L0 ⟨rows, false⟩ (v : Int) (a : Int) ((pivT rows a v).1, ⟨rows, (!decide ((invT rows a v).2 = 0)) || !decide ((pivT rows a v).2 = 0)⟩)) (((0 : Nat) : Int), ((!decide ((invT rows a v).2 = 0)) || !decide ((pivT rows a v).2 = 0)), rows.set a ⟨(pivT rows a v).1, (v : Int)⟩)) _) = some s ∧ _
  have eb : ((!decide ((invT rows a v).2 = 0)) || !decide ((pivT rows a v).2 = 0)) = !pivB rows a v := by unfold pivB; rw [Bool.not_and]
  rw [eb]
  unfold takeP
  cases hq : pivB rows a v with
  | false =>
    rw [show (!false) = true from rfl, over_loop (s := ⟨rows, false⟩) (by rw [List.length_set]) hb rows.length 0 (by dsimp only; omega)]
    exact ⟨_, rfl, by dsimp only; rw [List.length_set], rfl⟩
  | true =>
    rw [hset]
    obtain ⟨l', h1, h2, h3⟩ := take_loop ha hg hb (p := (pivT rows a v).1) (v := v) (sy := ⟨rows, false⟩) mulT_good.1 rows.length 0 (by omega)
    rw [show (!true) = false from rfl, h1]
    rw [← List.range_eq_range'] at h3 ⊢
    refine ⟨_, rfl, h2, ?_⟩
    rw [if_pos rfl]
    cases hf : fst rows.length (badR rows (pivT rows a v).1 a v) with
    | some i =>
      have := fst_some hf
      show (!_) = true
      rw [Bool.not_eq_true']
      rw [List.all_eq_false]
      exact ⟨i, List.mem_range.2 this.1, by rw [this.2]; decide⟩
    | none =>
      have hall : (List.range rows.length).all (fun j => !badR rows (pivT rows a v).1 a v j) = true := List.all_eq_true.2 fun j hj => by rw [fst_none.1 hf j (List.mem_range.1 hj)]; rfl
      rw [h3 hall, hall]
      rfl
end Go.E
end
section
set_option linter.all false
set_option maxRecDepth 10000
namespace Go.E
open Go Go.Proofs Go.Eng
def hit (rows : List Row) (v i : Nat) : Bool := decide ((rowAt rows i).f1 = -1) && !decide ((atT (rowAt rows i).f0 v).f0 = 0)
def pick (rows : List Row) (v : Nat) : Option Nat := fst rows.length (hit rows v)
def stepP (rows : List Row) (v : Nat) : Option (List Row) := match pick rows v with | none => some rows | some a => takeP rows a v
def runF (rows : List Row) : List Nat → Option (List Row)
  | [] => some rows
  | v :: vs => match stepP rows v with | none => none | some r => runF r vs
theorem hit1P {r : Row} {v : Nat} : m_gauss_system_solve_1 r (v : Int) = some (decide (r.f1 = -1) && !decide ((atT r.f0 v).f0 = 0)) := by
  unfold m_gauss_system_solve_1
  rw [atP]
  cases decide (r.f1 = -1) <;> rfl
theorem pickP {rows : List Row} {v : Nat} (hb : rows.length ≤ 1000) : m_slices_IndexFunc_gauss_row rows (fun x0 => m_gauss_system_solve_1 x0 (v : Int)) = some (match pick rows v with | some i => (i : Int) | none => -1) := by
  unfold m_slices_IndexFunc_gauss_row
  rw [show ((0 : Int)) = ((0 : Nat) : Int) from rfl, loopO_first (b := m_slices_IndexFunc_gauss_row_L0 rows _) (fun i : Nat => (i : Int)) rows.length (hit rows v) (fun i => (i : Int)) () ?_ ?_]
  · unfold pick
    cases fst rows.length (hit rows v) <;> rfl
  · intro i hi _
    unfold m_slices_IndexFunc_gauss_row_L0
    dsimp only
    rw [decide_eq_true (show (i : Int) < (rows.length : Int) by omega), ifB_true, row_gi hi]
    simp only [some_bind', hit1P]
    rw [wrap_succ (by omega)]
    show ifB (hit rows v i) _ _ = _
    cases hit rows v i <;> rfl
  · intro _
    unfold m_slices_IndexFunc_gauss_row_L0
    dsimp only
    rw [decide_eq_false (show ¬ (rows.length : Int) < (rows.length : Int) by omega)]
    rfl
theorem over_steps {l : List Row} (hb : l.length ≤ 1000) : ∀ k i : Nat, i + k = 8 → loopO m_gauss_system_solve_L0 ((i : Int), true, l) = some (true, l) := by
  intro k
  induction k with
  | zero =>
    intro i hi
    refine loopO_inr ?_
    unfold m_gauss_system_solve_L0
    dsimp only
    rw [decide_eq_false (by omega)]; rfl
  | succ k ih =>
    intro i hi
    have hb : m_gauss_system_solve_L0 ((i : Int), true, l) = some (.inl (((i + 1 : Nat) : Int), true, l)) := by
      unfold m_gauss_system_solve_L0
      dsimp only
      rw [decide_eq_true (show (i : Int) < 8 by omega), ifB_true, pickP hb, wrap_succ (by omega)]
      simp only [some_bind']
      cases pick l i with
      | none => rfl
      | some a =>
        dsimp only
        rw [decide_eq_true (show (0 : Int) ≤ (a : Int) by omega)]; rfl
    rw [loopO_inl hb]
    exact ih (i + 1) (by omega)
theorem step_good {rows r : List Row} {v : Nat} (h : goodL rows) (e : stepP rows v = some r) : goodL r ∧ r.length = rows.length := by
  unfold stepP at e
  split at e
  · cases e; exact ⟨h, rfl⟩
  · exact take_good h e
theorem steps_loop : ∀ (k i : Nat) (rows : List Row), i + k = 8 → goodL rows → rows.length ≤ 1000 → ∃ b l, loopO m_gauss_system_solve_L0 ((i : Int), false, rows) = some (b, l) ∧ (match runF rows (List.range' i k) with | some r => b = false ∧ l = r | none => b = true) := by
  intro k
  induction k with
  | zero =>
    intro i rows hi hg hb
    refine ⟨_, _, loopO_inr (x := (false, rows)) ?_, rfl, rfl⟩
    unfold m_gauss_system_solve_L0
    dsimp only
    rw [decide_eq_false (by omega)]; rfl
  | succ k ih =>
    intro i rows hi hg hb
    rw [List.range'_succ]
    show ∃ b l, _ ∧ (match (match stepP rows i with | none => none | some r => runF r (List.range' (i + 1) k)) with | some r => b = false ∧ l = r | none => b = true)
    cases hp : pick rows i with
    | none =>
      have hb' : m_gauss_system_solve_L0 ((i : Int), false, rows) = some (.inl (((i + 1 : Nat) : Int), false, rows)) := by
        unfold m_gauss_system_solve_L0
        dsimp only
        rw [decide_eq_true (show (i : Int) < 8 by omega), ifB_true, pickP hb, hp, wrap_succ (by omega)]
        rfl
      rw [loopO_inl hb', show stepP rows i = some rows by unfold stepP; rw [hp]]
      exact ih (i + 1) rows (by omega) hg hb
    | some a =>
      have ha : a < rows.length := (fst_some hp).1
      obtain ⟨s, hs, hsl, hm⟩ := takeE (v := i) ha hg hb
      have hb' : m_gauss_system_solve_L0 ((i : Int), false, rows) = some (.inl (((i + 1 : Nat) : Int), s.f1, s.f0)) := by
        unfold m_gauss_system_solve_L0
        dsimp only
        rw [decide_eq_true (show (i : Int) < 8 by omega), ifB_true, pickP hb, hp, wrap_succ (by omega)]
        simp only [some_bind']
        rw [decide_eq_true (show (0 : Int) ≤ (a : Int) by omega)]
        simp only [ifB_true, Bool.not_false, some_bind', hs]
      rw [loopO_inl hb', show stepP rows i = takeP rows a i by unfold stepP; rw [hp]]
      cases ht : takeP rows a i with
      | none =>
        rw [ht] at hm
        rw [hm]
        exact ⟨true, s.f0, over_steps (by omega) k (i + 1) (by omega), rfl⟩
      | some r =>
        rw [ht] at hm
        subst hm
        have hg' := take_good hg ht
        exact ih (i + 1) r (by omega) hg'.1 (by omega)
def key (l : List Row) (i : Nat) : Int := (rowAt l i).f1
def inKeys (l : List Row) : Prop := ∀ i, -1 ≤ key l i ∧ key l i < 8
theorem keys_perm {l l' : List Row} (h : l'.Perm l) (hk : inKeys l) : inKeys l' := by
  intro i
  unfold key
  by_cases hi : i < l'.length
  · have hm : l'[i] ∈ l := h.mem_iff.1 (List.getElem_mem hi)
    obtain ⟨j, hj, e⟩ := List.getElem_of_mem hm
    have := hk j
    unfold key at this
    rw [← row_of hi, ← e, row_of hj]; exact this
  · unfold rowAt; rw [List.getElem?_eq_none (by omega)]; exact ⟨by decide, by decide⟩
theorem cmpP {a b : Row} (ha : -1 ≤ a.f1 ∧ a.f1 < 8) (hb : -1 ≤ b.f1 ∧ b.f1 < 8) : m_gauss_Solve_2 a b = some (a.f1 - b.f1) := by
  unfold m_gauss_Solve_2
  rw [wrap_i64 (by omega) (by omega)]
noncomputable abbrev cmpF : Row → Row → Option Int := fun x0 x1 => m_gauss_Solve_2 x0 x1
structure Ins (rows : List Row) (i : Nat) (s : Int × List Row) (j : Nat) : Prop where
  a : s.1 = (j : Int)
  le : j ≤ i
  p : s.2.Perm rows
  o : ∀ x y, x < y → y ≤ i → x ≠ j → y ≠ j → key s.2 x ≤ key s.2 y
  u : ∀ y, j < y → y ≤ i → key s.2 j ≤ key s.2 y
theorem ins_loop {rows : List Row} {i : Nat} (hi : i < rows.length) (hb : rows.length ≤ 1000) (hk : inKeys rows) {l : List Row} (h : Ins rows i ((i : Int), l) i) :
    ∃ r, loopO (m_slices_insertionSortCmpFunc__gauss_row_L1 0 cmpF) ((i : Int), l) = some r ∧ (r.Perm rows ∧ ∀ x y, x < y → y ≤ i → key r x ≤ key r y) := by
  refine loopO_total (fun s => ∃ j, Ins rows i s j) (fun s => s.1.toNat) _ ?_ _ ⟨i, h⟩
  rintro ⟨_, l⟩ ⟨j, ⟨rfl, hle, hp, ho, hu⟩⟩
  dsimp only at hp ho hu
  have hl := hp.length_eq
  have kk := keys_perm hp hk
  by_cases hz : j = 0
  · right
    refine ⟨l, ?_, hp, fun x y h1 h2 => ?_⟩
    · unfold m_slices_insertionSortCmpFunc__gauss_row_L1
      dsimp only
      rw [decide_eq_false (show ¬ (0 : Int) < (j : Int) by omega)]
      rfl
    · by_cases e : x = j
      · subst e; exact hu y (by omega) h2
      · exact ho x y h1 h2 e (by omega)
  · have e1 : IntKind.wrap .i64 ((j : Int) - 1) = ((j - 1 : Nat) : Int) := by rw [wrap_i64 (by omega) (by omega)]; omega
    have g1 : gi l (j : Int) = some (rowAt l j) := row_gi (by omega)
    have g2 : gi l ((j - 1 : Nat) : Int) = some (rowAt l (j - 1)) := row_gi (by omega)
    have c1 := cmpP (a := rowAt l j) (b := rowAt l (j - 1)) (kk j) (kk (j - 1))
    by_cases hlt : key l j < key l (j - 1)
    · left
      obtain ⟨l2, hl2⟩ : ∃ l2, l2 = (l.set j (rowAt l (j - 1))).set (j - 1) (rowAt l j) := ⟨_, rfl⟩
      have kl : ∀ x, key l2 x = if x = j - 1 then key l j else if x = j then key l (j - 1) else key l x := by
        intro x
        have hc : l2[x]? = if x = j - 1 then some (rowAt l j) else if x = j then some (rowAt l (j - 1)) else l[x]? := by
          rw [hl2, List.getElem?_set]
          by_cases h1 : j - 1 = x
          · rw [if_pos h1, if_pos (by rw [List.length_set]; omega), if_pos h1.symm]
          · rw [if_neg h1, if_neg (fun e => h1 e.symm), List.getElem?_set]
            by_cases h2 : j = x
            · rw [if_pos h2, if_pos (by omega), if_pos h2.symm]
            · rw [if_neg h2, if_neg (fun e => h2 e.symm)]
        unfold key
        unfold rowAt at hc ⊢
        rw [hc]
        split
        · rfl
        · split <;> rfl
      have hp2 : l2.Perm l := by
        have := List.set_set_perm («as» := l) (i := j) (j := j - 1) (by omega) (by omega)
        rw [row_of (by omega), row_of (by omega)] at this
        rw [hl2]; exact this
      refine ⟨(((j - 1 : Nat) : Int), l2), ?_, ⟨j - 1, rfl, by omega, hp2.trans hp, ?_, ?_⟩, by dsimp only; omega⟩
      · unfold m_slices_insertionSortCmpFunc__gauss_row_L1
        dsimp only
        rw [decide_eq_true (show (0 : Int) < (j : Int) by omega), e1, rq_true (decide_eq_true (show (0 : Int) ≤ (j : Int) by omega)), rq_true (decide_eq_true (show (j : Int) < (l.length : Int) by omega)), rq_true (decide_eq_true (show (0 : Int) ≤ ((j - 1 : Nat) : Int) by omega)), rq_true (decide_eq_true (show ((j - 1 : Nat) : Int) < (l.length : Int) by omega)), g1, g2]
        simp only [ifB_true, some_bind', c1]
        have : decide ((rowAt l j).f1 - (rowAt l (j - 1)).f1 < 0) = true := decide_eq_true (by unfold key at hlt; omega)
        rw [this]
        simp only [ifB_true, Int.toNat_natCast]
        have g3 : gi (l.set j (rowAt l (j - 1))) ((j - 1 : Nat) : Int) = some (rowAt (l.set j (rowAt l (j - 1))) (j - 1)) := row_gi (by rw [List.length_set]; omega)
        rw [g3, some_bind', ← hl2]
      · intro x y h1 h2 h3 h4
        dsimp only
        rw [kl, kl, if_neg h3, if_neg h4]
        by_cases hx : x = j
        · rw [if_pos hx, if_neg (by omega)]
          exact ho (j - 1) y (by omega) h2 (by omega) (by omega)
        · rw [if_neg hx]
          by_cases hy : y = j
          · rw [if_pos hy]
            exact ho x (j - 1) (by omega) (by omega) hx (by omega)
          · rw [if_neg hy]
            exact ho x y h1 h2 hx hy
      · intro y h1 h2
        dsimp only
        rw [kl, kl, if_pos rfl, if_neg (by omega)]
        by_cases hy : y = j
        · rw [if_pos hy]; omega
        · rw [if_neg hy]; exact hu y (by omega) h2
    · right
      refine ⟨l, ?_, hp, fun x y h1 h2 => ?_⟩
      · unfold m_slices_insertionSortCmpFunc__gauss_row_L1
        dsimp only
        rw [decide_eq_true (show (0 : Int) < (j : Int) by omega), e1, rq_true (decide_eq_true (show (0 : Int) ≤ (j : Int) by omega)), rq_true (decide_eq_true (show (j : Int) < (l.length : Int) by omega)), rq_true (decide_eq_true (show (0 : Int) ≤ ((j - 1 : Nat) : Int) by omega)), rq_true (decide_eq_true (show ((j - 1 : Nat) : Int) < (l.length : Int) by omega)), g1, g2]
        simp only [ifB_true, some_bind', c1]
        have : decide ((rowAt l j).f1 - (rowAt l (j - 1)).f1 < 0) = false := decide_eq_false (by unfold key at hlt; omega)
        rw [this]
        rfl
      · by_cases hx : x = j
        · subst hx; exact hu y h1 h2
        · by_cases hy : y = j
          · subst hy
            by_cases e : x = y - 1
            · subst e; omega
            · have := ho x (y - 1) (by omega) (by omega) hx (by omega)
              omega
          · exact ho x y h1 h2 hx hy
theorem sortP {rows : List Row} (hb : rows.length ≤ 12) (hk : inKeys rows) : ∃ s, m_slices_SortStableFunc_gauss_row rows cmpF = some s ∧ s.Perm rows ∧ ∀ x y, x < y → y < rows.length → key s x ≤ key s y := by
  have ins : ∃ s, m_slices_insertionSortCmpFunc__gauss_row rows 0 (rows.length : Int) cmpF = some s ∧ s.Perm rows ∧ ∀ x y, x < y → y < rows.length → key s x ≤ key s y := by
    unfold m_slices_insertionSortCmpFunc__gauss_row
    have main : ∀ (k i : Nat) (l : List Row), i + k = rows.length → 1 ≤ i → l.Perm rows → (∀ x y, x < y → y < i → key l x ≤ key l y) → ∃ s, loopO (m_slices_insertionSortCmpFunc__gauss_row_L0 (rows.length : Int) 0 cmpF) ((i : Int), l) = some s ∧ s.Perm rows ∧ ∀ x y, x < y → y < rows.length → key s x ≤ key s y := by
      intro k
      induction k with
      | zero =>
        intro i l hi _ hp ho
        refine ⟨l, loopO_inr ?_, hp, fun x y h1 h2 => ho x y h1 (by omega)⟩
        unfold m_slices_insertionSortCmpFunc__gauss_row_L0
        dsimp only
        rw [decide_eq_false (by omega)]; rfl
      | succ k ih =>
        intro i l hi h1 hp ho
        obtain ⟨r, hr, hrp, hro⟩ := ins_loop (i := i) (rows := rows) (by omega) (by omega) hk (l := l) ⟨rfl, Nat.le_refl _, hp, fun x y a b c d => ho x y a (by omega), fun y a b => by omega⟩
        have hb : m_slices_insertionSortCmpFunc__gauss_row_L0 (rows.length : Int) 0 cmpF ((i : Int), l) = some (.inl (((i + 1 : Nat) : Int), r)) := by
          unfold m_slices_insertionSortCmpFunc__gauss_row_L0
          dsimp only
          rw [decide_eq_true (show (i : Int) < (rows.length : Int) by omega), ifB_true, hr, wrap_succ (by omega)]
          rfl
        rw [loopO_inl hb]
        exact ih (i + 1) r (by omega) (by omega) hrp fun x y a b => hro x y a (by omega)
    rw [show IntKind.wrap .i64 ((0 : Int) + 1) = ((1 : Nat) : Int) from rfl]
    by_cases h0 : rows.length = 0
    · refine ⟨rows, ?_, .refl _, fun x y h1 h2 => by omega⟩
      rw [loopO_inr (x := rows)]
      · rfl
      · unfold m_slices_insertionSortCmpFunc__gauss_row_L0
        dsimp only
        rw [decide_eq_false (by omega)]; rfl
    · obtain ⟨s, hs, h⟩ := main (rows.length - 1) 1 rows (by omega) (by omega) (.refl _) fun x y h1 h2 => by omega
      exact ⟨s, by rw [hs]; rfl, h⟩
  obtain ⟨s, hs, h⟩ := ins
  refine ⟨s, ?_, h⟩
  unfold m_slices_SortStableFunc_gauss_row m_slices_stableCmpFunc__gauss_row
  rw [loopO_inr (x := ((0 : Int), rows))]
  · simp only [some_bind', hs]
    rw [loopO_inr (x := ())]
    · rfl
    · unfold m_slices_stableCmpFunc__gauss_row_L1
      dsimp only
      rw [decide_eq_false (by omega)]; rfl
  · unfold m_slices_stableCmpFunc__gauss_row_L0
    dsimp only
    rw [decide_eq_false (by omega)]; rfl
end Go.E
end
section
set_option linter.all false
set_option maxRecDepth 10000
namespace Go.E
open Go Go.Proofs Go.Eng
theorem mk_succ {α : Type} {n : Nat} {f : Nat → α} : mkL (n + 1) f = mkL n f ++ [f n] := by unfold mkL; rw [List.range_succ, List.map_append]; rfl
def tAt (l : List TTerm) (i : Nat) : TTerm := (l[i]?).getD zT
theorem t_gi {l : List TTerm} {i : Nat} (h : i < l.length) : gi l (i : Int) = some (tAt l i) := by rw [gi_of h]; unfold tAt; rw [List.getElem?_eq_getElem h]; rfl
theorem t_of {l : List TTerm} {i : Nat} (h : i < l.length) : l[i] = tAt l i := by unfold tAt; rw [List.getElem?_eq_getElem h]; rfl
def inL (l : List TTerm) : Prop := ∀ t ∈ l, in64T t
theorem t_in {l : List TTerm} (h : inL l) (i : Nat) : in64T (tAt l i) := by
  unfold tAt
  cases hq : l[i]? with
  | none => exact z_in
  | some t => exact h t (List.mem_of_getElem? hq)
def startL (l : List TTerm) : List Row := mkL l.length fun i => ⟨ownT (tAt l i), -1⟩
theorem own_in {t : TTerm} (h : in64T t) : in64T (ownT t) := by
  unfold ownT; split
  · exact trim_in h
  · exact ⟨n64, (fun _ h => by cases h), Nat.zero_le _⟩
structure W (rows : List Row) (v : Nat) : Prop where
  g : goodL rows
  r : ∀ i, i < rows.length → key rows i = -1 ∨ ∃ u : Nat, u < v ∧ key rows i = (u : Int)
  d : ∀ i j, i < rows.length → j < rows.length → key rows i ≠ -1 → key rows i = key rows j → i = j
theorem start_W {l : List TTerm} (h : inL l) : W (startL l) 0 := by
  have hk : ∀ i, i < (startL l).length → key (startL l) i = -1 := fun i hi => by
    unfold key startL; rw [row_mk (by unfold startL at hi; rwa [mk_len] at hi)]
  exact ⟨mkL_good fun i => own_in (t_in h i), fun i hi => .inl (hk i hi), fun i j hi hj hn => absurd (hk i hi) hn⟩
theorem take_some {rows r : List Row} {a v : Nat} (e : takeP rows a v = some r) : pivB rows a v = true ∧ (∀ i, i < rows.length → badR rows (pivT rows a v).1 a v i = false) ∧ r = mkL rows.length (newR rows (pivT rows a v).1 a v) := by
  unfold takeP at e
  split at e
  · rename_i h
    split at e
    · cases e
    · rename_i h2
      cases e
      exact ⟨h, fst_none.1 h2, rfl⟩
  · cases e
theorem take_key {rows r : List Row} {a v : Nat} (e : takeP rows a v = some r) {i : Nat} (hi : i < rows.length) : key r i = if i = a then (v : Int) else key rows i := by
  obtain ⟨_, _, rfl⟩ := take_some e
  unfold key
  rw [row_mk hi]
  unfold newR
  by_cases h : i = a
  · rw [if_pos h, if_pos h]
  · rw [if_neg h, if_neg h]
    split <;> rfl
theorem pick_some {rows : List Row} {v a : Nat} (h : pick rows v = some a) : a < rows.length ∧ key rows a = -1 ∧ (atT (rowAt rows a).f0 v).f0 ≠ 0 := by
  obtain ⟨h1, h2⟩ := fst_some h
  unfold hit at h2
  simp at h2
  exact ⟨h1, h2.1, h2.2⟩
theorem step_W {rows r : List Row} {v : Nat} (h : W rows v) (e : stepP rows v = some r) : W r (v + 1) := by
  unfold stepP at e
  cases hp : pick rows v with
  | none =>
    rw [hp] at e
    cases e
    exact ⟨h.g, fun i hi => (h.r i hi).imp id fun ⟨u, h1, h2⟩ => ⟨u, by omega, h2⟩, h.d⟩
  | some a =>
    rw [hp] at e
    dsimp only at e
    obtain ⟨ha, _, _⟩ := pick_some hp
    obtain ⟨hg, hl⟩ := take_good h.g e
    refine ⟨hg, fun i hi => ?_, fun i j hi hj hn he => ?_⟩
    · rw [take_key e (by omega)]
      split
      · exact .inr ⟨v, by omega, rfl⟩
      · exact (h.r i (by omega)).imp id fun ⟨u, h1, h2⟩ => ⟨u, by omega, h2⟩
    · rw [take_key e (by omega)] at hn he
      rw [take_key e (by omega)] at he
      have hv : ∀ k, k < rows.length → key rows k ≠ (v : Int) := fun k hk => by
        rcases h.r k hk with h1 | ⟨u, h1, h2⟩ <;> omega
      by_cases h1 : i = a
      · rw [if_pos h1] at he
        by_cases h2 : j = a
        · omega
        · rw [if_neg h2] at he
          exact absurd he.symm (hv j (by omega))
      · rw [if_neg h1] at he hn
        by_cases h2 : j = a
        · rw [if_pos h2] at he
          exact absurd he (hv i (by omega))
        · rw [if_neg h2] at he
          exact h.d i j (by omega) (by omega) hn he
theorem run_W : ∀ (k i : Nat) (rows r : List Row), W rows i → runF rows (List.range' i k) = some r → W r (i + k) ∧ r.length = rows.length := by
  intro k
  induction k with
  | zero => intro i rows r h e; cases e; exact ⟨h, rfl⟩
  | succ k ih =>
    intro i rows r h e
    rw [List.range'_succ] at e
    unfold runF at e
    cases hs : stepP rows i with
    | none => rw [hs] at e; cases e
    | some r1 =>
      rw [hs] at e
      obtain ⟨h1, h2⟩ := ih (i + 1) r1 r (step_W h hs) e
      exact ⟨by rw [show i + (k + 1) = i + 1 + k by omega]; exact h1, by rw [h2, (step_good h.g hs).2]⟩
def idxV (rows : List Row) (u : Nat) : Option Nat := fst rows.length fun i => decide (key rows i = (u : Int))
def pairs (rows : List Row) (v : Nat) : List (Nat × Nat) := (List.range v).filterMap fun u => (idxV rows u).map fun i => (i, u)
def usedR (rows : List Row) : List Row := (pairs rows 8).map fun p => rowAt rows p.1
theorem pair_mem {rows : List Row} {v : Nat} {p : Nat × Nat} (h : p ∈ pairs rows v) : p.1 < rows.length ∧ p.2 < v ∧ key rows p.1 = (p.2 : Int) := by
  unfold pairs at h
  obtain ⟨u, hu, h⟩ := List.mem_filterMap.1 h
  obtain ⟨i, hi, rfl⟩ := Option.map_eq_some_iff.1 h
  have := fst_some hi
  simp at this
  exact ⟨this.1, List.mem_range.1 hu, this.2⟩
def badC (r : Row) : Bool := decide (r.f1 = -1) && !decide (r.f0.f1.f0 = 0)
def endP (r : List Row) : List TTerm × List Int × Int := if r.any badC then ([], [], 1) else ((usedR r).map fun x => x.f0, (usedR r).map fun x => x.f1, 0)
def solP (l : List TTerm) : List TTerm × List Int × Int :=
  if l.any (fun t => !rt t) then ([], [], 2) else match runF (startL l) (List.range 8) with | none => ([], [], 2) | some r => endP r
theorem asc_eq : ∀ {l l' : List Row}, l.Pairwise (fun a b => a.f1 < b.f1) → l'.Pairwise (fun a b => a.f1 < b.f1) → (∀ x, x ∈ l ↔ x ∈ l') → l = l'
  | [], [], _, _, _ => rfl
  | [], a :: l', _, _, h => by have := (h a).2 List.mem_cons_self; cases this
  | a :: l, [], _, _, h => by have := (h a).1 List.mem_cons_self; cases this
  | a :: l, b :: l', h1, h2, h => by
    obtain ⟨ha, k1⟩ := List.pairwise_cons.1 h1
    obtain ⟨hb, k2⟩ := List.pairwise_cons.1 h2
    have e : a = b := by
      rcases List.mem_cons.1 ((h a).1 List.mem_cons_self) with e | e
      · exact e
      · rcases List.mem_cons.1 ((h b).2 List.mem_cons_self) with e' | e'
        · exact e'.symm
        · have := ha b e'; have := hb a e; omega
    subst e
    refine congrArg (List.cons a) (asc_eq k1 k2 fun x => ⟨fun hx => ?_, fun hx => ?_⟩)
    · rcases List.mem_cons.1 ((h x).1 (List.mem_cons_of_mem _ hx)) with e | e
      · subst e; have := ha x hx; omega
      · exact e
    · rcases List.mem_cons.1 ((h x).2 (List.mem_cons_of_mem _ hx)) with e | e
      · subst e; have := hb x hx; omega
      · exact e
theorem used_asc {rows : List Row} : (usedR rows).Pairwise fun a b => a.f1 < b.f1 := by
  unfold usedR
  rw [List.pairwise_map]
  have : (pairs rows 8).Pairwise fun p q => p.2 < q.2 := by
    unfold pairs
    refine List.Pairwise.filterMap _ (fun a a' h b hb b' hb' => ?_) List.pairwise_lt_range
    obtain ⟨i, _, rfl⟩ := Option.map_eq_some_iff.1 hb
    obtain ⟨i', _, rfl⟩ := Option.map_eq_some_iff.1 hb'
    exact h
  refine List.Pairwise.imp_of_mem (fun {p q} hp hq h => ?_) this
  have h1 := (pair_mem hp).2.2
  have h2 := (pair_mem hq).2.2
  unfold key at h1 h2
  omega
theorem used_mem {rows : List Row} (h : W rows 8) (x : Row) : x ∈ usedR rows ↔ x ∈ rows ∧ x.f1 ≠ -1 := by
  constructor
  · intro hx
    unfold usedR at hx
    obtain ⟨p, hp, rfl⟩ := List.mem_map.1 hx
    obtain ⟨h1, h2, h3⟩ := pair_mem hp
    refine ⟨by rw [← row_of h1]; exact List.getElem_mem h1, ?_⟩
    unfold key at h3; omega
  · rintro ⟨hx, hn⟩
    obtain ⟨i, hi, rfl⟩ := List.getElem_of_mem hx
    rw [row_of hi] at hn ⊢
    rcases h.r i hi with h1 | ⟨u, h1, h2⟩
    · exact absurd h1 hn
    · unfold usedR
      refine List.mem_map.2 ⟨(i, u), ?_, rfl⟩
      unfold pairs
      refine List.mem_filterMap.2 ⟨u, List.mem_range.2 h1, ?_⟩
      cases hq : idxV rows u with
      | none =>
        have := fst_none.1 hq i hi
        simp [h2] at this
      | some j =>
        have hj := fst_some hq
        simp at hj
        rw [h.d i j hi hj.1 hn (by rw [h2, hj.2])]; rfl
theorem idxT {l : List TTerm} {f : TTerm → Option Bool} {g : TTerm → Bool} (h : l.length ≤ 1000) (hf : ∀ o ∈ l, f o = some (g o)) : m_slices_ContainsFunc_api_Term l f = some (l.any g) := by
  unfold m_slices_ContainsFunc_api_Term m_slices_IndexFunc_api_Term
  rw [show ((0 : Int)) = ((0 : Nat) : Int) from rfl, loopO_first (b := m_slices_IndexFunc_api_Term_L0 l f) (fun i : Nat => (i : Int)) l.length (fun i => match l[i]? with | some o => g o | none => false) (fun i => (i : Int)) () ?_ ?_]
  · cases hq : fst l.length (fun i => match l[i]? with | some o => g o | none => false) with
    | none =>
      rw [fst_none] at hq
      have : l.any g = false := by
        rw [List.any_eq_false]
        intro x hx
        obtain ⟨i, hi, rfl⟩ := List.getElem_of_mem hx
        have := hq i hi
        rw [List.getElem?_eq_getElem hi] at this
        simpa using this
      rw [this]; rfl
    | some i =>
      obtain ⟨h1, h2⟩ := fst_some hq
      rw [List.getElem?_eq_getElem h1] at h2
      have : l.any g = true := List.any_eq_true.2 ⟨_, List.getElem_mem h1, h2⟩
      rw [this]
      simp only [some_bind']
      rw [decide_eq_true (show ((0 : Nat) : Int) ≤ (i : Int) by omega)]
  · intro i hi _
    unfold m_slices_IndexFunc_api_Term_L0
    simp only [lt_cast, decide_eq_true hi, ifB_true, gi_of hi, some_bind', hf _ (List.getElem_mem hi), List.getElem?_eq_getElem hi]
    rw [wrap_succ (by omega)]
    cases g l[i] <;> rfl
  · intro _
    unfold m_slices_IndexFunc_api_Term_L0
    simp only [lt_cast, Nat.lt_irrefl, decide_false, ifB_false]
theorem start_loop {l : List TTerm} (h : inL l) (hl : l.length ≤ 12) : loopO (m_gauss_Solve_L0 l) (0, []) = some (startL l) := by
  have main := loopO_count (b := m_gauss_Solve_L0 l) l.length (fun i s => s = ((i : Int), mkL i fun i => (⟨ownT (tAt l i), -1⟩ : Row))) (fun r => r = startL l) ?_ ?_ (s := (0, [])) rfl
  · obtain ⟨r, hr, rfl⟩ := main
    exact hr
  · rintro i _ hi rfl
    left
    unfold m_gauss_Solve_L0
    dsimp only
    rw [decide_eq_true (show (i : Int) < (l.length : Int) by omega), ifB_true, t_gi hi]
    simp only [some_bind', ownP (t_in h i)]
    rw [rq_true (decide_eq_true (by rw [mk_len]; simp; omega)), wrap_succ (by omega)]
    exact ⟨_, rfl, by rw [mk_succ]⟩
  · rintro _ rfl
    unfold m_gauss_Solve_L0
    dsimp only
    rw [decide_eq_false (by omega)]
    exact ⟨_, rfl, rfl⟩
theorem end_loop {r s : List Row} {sy : TGauss_system} (hs : s.Perm r) (hw : W r 8) (hl : r.length ≤ 12) (hsy : sy.f0.length = s.length) (ho : ∀ x y, x < y → y < r.length → key s x ≤ key s y) :
    Option.bind (loopO (m_gauss_Solve_L1 sy s) ([], [], 0)) (fun z => (match z with  | .inl (v41, v43) =>  (some ((v41, v43, 0)))  | .inr r => (some r))) = some (endP r) := by
  have sl := hs.length_eq
  have key1 := loopO_first (b := m_gauss_Solve_L1 sy s) (fun i : Nat => (((s.take i).filter fun x => !decide (x.f1 = -1)).map (fun x => x.f0), ((s.take i).filter fun x => !decide (x.f1 = -1)).map (fun x => x.f1), (i : Int))) s.length (fun i => badC (rowAt s i))
    (fun _ => ([], [], 1)) ((s.filter fun x => !decide (x.f1 = -1)).map (fun x => x.f0), (s.filter fun x => !decide (x.f1 = -1)).map (fun x => x.f1)) ?_ ?_
  · rw [show (([], [], 0) : List TTerm × List Int × Int) = (((s.take 0).filter fun x => !decide (x.f1 = -1)).map (fun x => x.f0), ((s.take 0).filter fun x => !decide (x.f1 = -1)).map (fun x => x.f1), ((0 : Nat) : Int)) from rfl, key1]
    unfold endP
    have hm : ∀ x, x ∈ s ↔ x ∈ r := fun x => hs.mem_iff
    cases hq : fst s.length (fun i => badC (rowAt s i)) with
    | some i =>
      obtain ⟨h1, h2⟩ := fst_some hq
      have : r.any badC = true := List.any_eq_true.2 ⟨rowAt s i, (hm _).1 (by rw [← row_of h1]; exact List.getElem_mem h1), h2⟩
      rw [this]; rfl
    | none =>
      have hn := fst_none.1 hq
      have : r.any badC = false := by
        rw [List.any_eq_false]
        intro x hx
        obtain ⟨i, hi, rfl⟩ := List.getElem_of_mem ((hm x).2 hx)
        have := hn i hi
        rw [row_of hi, this]; decide
      rw [this]
      have e : (s.filter fun x => !decide (x.f1 = -1)) = usedR r := by
        refine asc_eq ?_ used_asc fun x => ?_
        · have h1 : s.Pairwise fun a b => a.f1 = -1 ∨ b.f1 = -1 ∨ a.f1 < b.f1 := by
            have hd : s.Pairwise fun a b => a.f1 = -1 ∨ b.f1 = -1 ∨ a.f1 ≠ b.f1 := by
              refine hs.symm.pairwise ?_ fun {x y} h => by
                rcases h with h | h | h
                · exact .inr (.inl h)
                · exact .inl h
                · exact .inr (.inr fun e => h e.symm)
              rw [List.pairwise_iff_getElem]
              intro i j hi hj hij
              by_cases h1 : r[i].f1 = -1
              · exact .inl h1
              · refine .inr (.inr fun e => ?_)
                have := hw.d i j hi hj (by unfold key; rw [← row_of hi]; exact h1) (by unfold key; rw [← row_of hi, ← row_of hj]; exact e)
                omega
            have hle : s.Pairwise fun a b => a.f1 ≤ b.f1 := by
              rw [List.pairwise_iff_getElem]
              intro i j hi hj hij
              have := ho i j hij (by omega)
              unfold key at this
              rw [row_of hi, row_of hj]; exact this
            exact (hd.and hle).imp fun h => by
              rcases h with ⟨h | h | h, h'⟩
              · exact .inl h
              · exact .inr (.inl h)
              · exact .inr (.inr (by omega))
          refine List.Pairwise.imp_of_mem (fun {p q} hp hq h => ?_) (h1.filter _)
          have hp := (List.mem_filter.1 hp).2
          have hq := (List.mem_filter.1 hq).2
          simp at hp hq
          rcases h with h | h | h
          · exact absurd h hp
          · exact absurd h hq
          · exact h
        · rw [used_mem hw, List.mem_filter, hm]
          simp
      rw [e]; rfl
  · intro i hi _
    unfold m_gauss_Solve_L1
    dsimp only
    rw [decide_eq_true (show (i : Int) < (sy.f0.length : Int) by omega), ifB_true, rq_true (decide_eq_true (show (0 : Int) ≤ (i : Int) by omega)), rq_true rfl, row_gi hi]
    simp only [some_bind']
    have e0 : s.take (i + 1) = s.take i ++ [rowAt s i] := by rw [List.take_add_one, List.getElem?_eq_getElem hi, row_of hi]; rfl
    have fl : ((s.take i).filter fun x => !decide (x.f1 = -1)).length ≤ 12 := Nat.le_trans (List.length_filter_le _ _) (by rw [List.length_take]; omega)
    rw [wrap_succ (by omega), e0, List.filter_append, List.map_append, List.map_append]
    unfold badC
    by_cases h1 : (rowAt s i).f1 = -1
    · rw [decide_eq_true h1]
      simp only [Bool.not_true, ifB_false, Bool.true_and]
      have e1 : List.filter (fun x : Row => !decide (x.f1 = -1)) [rowAt s i] = [] := by simp [h1]
      rw [e1]
      by_cases h2 : (rowAt s i).f0.f1.f0 = 0
      · rw [decide_eq_true h2]
        simp only [Bool.not_true, ifB_false, some_bind', List.map_nil, List.append_nil]
        rfl
      · rw [decide_eq_false h2]
        rfl
    · rw [decide_eq_false h1]
      have e1 : List.filter (fun x : Row => !decide (x.f1 = -1)) [rowAt s i] = [rowAt s i] := by simp [h1]
      rw [e1]
      simp only [Bool.not_false, ifB_true]
      rw [rq_true (decide_eq_true (by rw [List.length_map]; simp; omega)), rq_true (decide_eq_true (by rw [List.length_map]; simp; omega))]
      rfl
  · intro _
    unfold m_gauss_Solve_L1
    dsimp only
    rw [decide_eq_false (by omega)]
    rw [List.take_length]; rfl
theorem solveE {l : List TTerm} (h : inL l) (hl : l.length ≤ 12) : m_gauss_Solve l = some (solP l) := by
  unfold m_gauss_Solve solP
  rw [decide_eq_false (show ¬ 400 < (l.length : Int) by omega), idxT (g := fun t => !rt t) (by omega) fun t ht => by unfold m_gauss_Solve_1; rw [tR (h t ht)]; rfl]
  simp only [ifB_false, some_bind']
  cases l.any (fun t => !rt t) with
  | true => rfl
  | false =>
    simp only [ifB_false, start_loop h hl, some_bind', Bool.false_eq_true, if_false]
    have hw := start_W h
    have sl : (startL l).length = l.length := mk_len
    obtain ⟨b, l', h1, h2⟩ := steps_loop 8 0 (startL l) (by omega) hw.g (by omega)
    have h1' : m_gauss_system_solve ⟨startL l, false⟩ = some ⟨l', b⟩ := by
      unfold m_gauss_system_solve
      dsimp only
      rw [show ((0 : Int)) = ((0 : Nat) : Int) from rfl, h1]; rfl
    rw [h1', ← List.range_eq_range'] at *
    simp only [some_bind']
    cases hr : runF (startL l) (List.range 8) with
    | none =>
      rw [hr] at h2
      dsimp only at h2
      rw [h2]; rfl
    | some r =>
      rw [hr] at h2
      obtain ⟨rfl, rfl⟩ := h2
      simp only [ifB_false]
      rw [List.range_eq_range'] at hr
      obtain ⟨w8, rl⟩ := run_W 8 0 _ _ hw hr
      have hk : inKeys l' := fun i => by
        by_cases hi : i < l'.length
        · rcases w8.r i hi with h | ⟨u, h1, h2⟩ <;> omega
        · unfold key rowAt; rw [List.getElem?_eq_none (by omega)]; exact ⟨by decide, by decide⟩
      obtain ⟨s, s1, s2, s3⟩ := sortP (rows := l') (by omega) hk
      have s1' : m_slices_SortStableFunc_gauss_row l' (fun x0 x1 => m_gauss_Solve_2 x0 x1) = some s := s1
      rw [s1']
      simp only [some_bind']
      exact end_loop s2 (by simpa using w8) (by omega) s2.length_eq.symm s3
end Go.E
end
section
set_option linter.all false
set_option maxRecDepth 10000
namespace Go.E
open Go Go.Proofs Go.Eng
theorem pairs_len {rows : List Row} {v : Nat} : (pairs rows v).length ≤ v := by
  unfold pairs
  exact Nat.le_trans (List.length_filterMap_le _ _) (by simp)
end Go.E
end
section
set_option linter.all false
set_option maxRecDepth 10000
namespace Go.E
open Go Go.Proofs Go.Eng
theorem wf64 {a : Int} (h : (Lit.int .i64 a).wf = true) : BallQ.In64 a := by
  simp [Lit.wf, IntKind.min, IntKind.max, IntKind.signed, IntKind.bits] at h
  exact ⟨by omega, by omega⟩
theorem okR {r : TRat} (h : okTRat r) : in64R r := ⟨wf64 h.1, wf64 h.2.1⟩
theorem eqR_self {r : TRat} : eqTRat r r = true := by unfold eqTRat; simp
theorem idxI {l : List Int} {x : Int} (hl : l.length ≤ 1000) : m_slices_Contains_int l x = some (l.any fun y => decide (x = y)) := by
  unfold m_slices_Contains_int m_slices_Index_int
  rw [show ((0 : Int)) = ((0 : Nat) : Int) from rfl, loopO_first (b := m_slices_Index_int_L0 l x) (fun i : Nat => (i : Int)) l.length (fun i => match l[i]? with | some o => decide (x = o) | none => false) (fun i => (i : Int)) () ?_ ?_]
  · cases hq : fst l.length (fun i => match l[i]? with | some o => decide (x = o) | none => false) with
    | none =>
      rw [fst_none] at hq
      have : l.any (fun y => decide (x = y)) = false := by
        rw [List.any_eq_false]
        intro x hx
        obtain ⟨i, hi, rfl⟩ := List.getElem_of_mem hx
        have := hq i hi
        rw [List.getElem?_eq_getElem hi] at this
        simpa using this
      rw [this]; rfl
    | some i =>
      obtain ⟨h1, h2⟩ := fst_some hq
      rw [List.getElem?_eq_getElem h1] at h2
      have : l.any (fun y => decide (x = y)) = true := List.any_eq_true.2 ⟨_, List.getElem_mem h1, h2⟩
      rw [this]
      simp only [some_bind']
      rw [decide_eq_true (show ((0 : Nat) : Int) ≤ (i : Int) by omega)]
  · intro i hi _
    unfold m_slices_Index_int_L0
    simp only [lt_cast, decide_eq_true hi, ifB_true, gi_of hi, some_bind', List.getElem?_eq_getElem hi]
    rw [wrap_succ (by omega)]
    cases decide (x = l[i]) <;> rfl
  · intro _
    unfold m_slices_Index_int_L0
    simp only [lt_cast, Nat.lt_irrefl, decide_false, ifB_false]
abbrev w1 : List TTerm := [⟨[⟨1, 1⟩, ⟨1, 1⟩], ⟨-1, 1⟩⟩, ⟨[⟨1, 1⟩, ⟨-1, 1⟩], ⟨0, 1⟩⟩]
abbrev w2 : List TTerm := [⟨[], ⟨1, 1⟩⟩]
theorem in64T_of {t : TTerm} (h : (decide (t.f0.length ≤ 1000) && decide (in64R t.f1) && t.f0.all fun r => decide (in64R r)) = true) : in64T t := by
  simp only [Bool.and_eq_true, decide_eq_true_eq, List.all_eq_true] at h
  exact ⟨h.1.2, h.2, h.1.1⟩
theorem used_in {r : List Row} (h : goodL r) : inL ((usedR r).map fun x => x.f0) := by
  intro t ht
  obtain ⟨x, hx, rfl⟩ := List.mem_map.1 ht
  unfold usedR at hx
  obtain ⟨p, _, rfl⟩ := List.mem_map.1 hx
  exact h p.1
end Go.E
end
section
set_option linter.all false
set_option maxRecDepth 10000
namespace Go.E
open Go Go.Proofs Go.Eng
def qv (r : TRat) : Rat := BallQ.q r.f0 r.f1
theorem rr_right {r : TRat} (h : rr r = true) : BallQ.Right r.f0 r.f1 := of_decide_eq_true h
theorem qv_inj {a b : TRat} (ha : in64R a) (hb : in64R b) (ra : rr a = true) (rb : rr b = true) (e : qv a = qv b) : a = b := by
  obtain ⟨h1, h2⟩ := BallQ.right_inj (rr_right ra) ha.1 ha.2 (rr_right rb) hb.1 hb.2 e
  cases a; cases b; cases h1; cases h2; rfl
theorem qv_zero {r : TRat} (h : rr r = true) : r.f0 = 0 ↔ qv r = 0 := by
  unfold qv BallQ.q
  obtain ⟨h0, _, _⟩ := rr_right h
  rw [Rat.mkRat_eq_zero (by omega)]
theorem qv_n : qv ⟨0, 1⟩ = 0 := by decide +kernel
theorem qv_1 : qv ⟨1, 1⟩ = 1 := by decide +kernel
theorem out_q {x : Rat} (h : (toR (BallQ.out x)).2 = 0) : qv (toR (BallQ.out x)).1 = x := by
  by_cases hf : BallQ.fits x
  · rw [out_ok hf]; exact BallQ.q_self x
  · rw [out_over hf] at h; cases h
theorem addR_q {a b : TRat} (h : (addR a b).2 = 0) : rr a = true ∧ rr b = true ∧ qv (addR a b).1 = qv a + qv b := by
  unfold addR addS at h ⊢
  split at h
  · rename_i hc
    rw [if_pos hc]
    exact ⟨decide_eq_true hc.1, decide_eq_true hc.2, out_q h⟩
  · cases h
theorem mulR_q {a b : TRat} (h : (mulR a b).2 = 0) : rr a = true ∧ rr b = true ∧ qv (mulR a b).1 = qv a * qv b := by
  unfold mulR mulS at h ⊢
  split at h
  · rename_i hc
    rw [if_pos hc]
    exact ⟨decide_eq_true hc.1, decide_eq_true hc.2, out_q h⟩
  · cases h
theorem inv_q {n d : Int} (h : BallQ.Right n d) (hz : n ≠ 0) : BallQ.q (invN n d) (n.natAbs : Int) = (BallQ.q n d)⁻¹ := by
  obtain ⟨h0, _, _⟩ := h
  unfold BallQ.q
  rw [BallQ.q_div, BallQ.q_div]
  obtain ⟨D, rfl⟩ : ∃ D : Nat, d = (D : Int) := ⟨d.toNat, by omega⟩
  have hD : (D : Rat) ≠ 0 := BallQ.cast_ne (by omega)
  rw [Int.toNat_natCast, Int.toNat_natCast]
  unfold invN
  by_cases hn : n < 0
  · rw [if_pos hn]
    obtain ⟨N, rfl⟩ : ∃ N : Nat, n = -(N : Int) := ⟨n.natAbs, by omega⟩
    have hN : (N : Rat) ≠ 0 := BallQ.cast_ne (by omega)
    rw [Int.natAbs_neg, Int.natAbs_natCast]
    simp only [Rat.intCast_neg, Rat.intCast_natCast]
    grind
  · rw [if_neg hn]
    obtain ⟨N, rfl⟩ : ∃ N : Nat, n = (N : Int) := ⟨n.natAbs, by omega⟩
    have hN : (N : Rat) ≠ 0 := BallQ.cast_ne (by omega)
    rw [Int.natAbs_natCast]
    simp only [Rat.intCast_natCast]
    grind
theorem divR_q {a b : TRat} (hb : in64R b) (h : (divR a b).2 = 0) : rr a = true ∧ rr b = true ∧ qv b ≠ 0 ∧ qv (divR a b).1 = qv a * (qv b)⁻¹ := by
  unfold divR divS at h ⊢
  split at h
  · rename_i hc
    rw [if_pos hc]
    unfold mulS at h ⊢
    split at h
    · rename_i hc2
      rw [if_pos hc2]
      refine ⟨decide_eq_true hc.1, decide_eq_true hc.2.1, fun e => hc.2.2 ((qv_zero (decide_eq_true hc.2.1)).2 e), ?_⟩
      rw [out_q h, inv_q hc.2.1 hc.2.2]; rfl
    · cases h
  · cases h
theorem neg_q {c : TRat} (hc : in64R c) (h : rr c = true) : rr (neg c) = true ∧ qv (neg c) = -qv c := by
  have hr := rr_right h
  have e : neg c = ⟨-c.f0, c.f1⟩ := by
    unfold neg
    obtain ⟨⟨n1, n2⟩, _⟩ := hc
    have := hr.2.1
    rw [wrap_i64 (by omega) (by omega)]; simp
  rw [e]
  have := right_neg hr hc.1
  exact ⟨decide_eq_true this.1, this.2.2⟩
def V (t : TTerm) (i : Nat) : Rat := qv (atT t i)
def K (t : TTerm) : Rat := qv t.f1
def Cn (t : TTerm) : Prop := ∀ n, t.f0.length = n + 1 → (atT t n).f0 ≠ 0
structure Ok (t : TTerm) : Prop where
  i : in64T t
  r : rt t = true
  c : Cn t
theorem cut_zero {l : List TRat} : ∀ {n : Nat}, n ≤ l.length → ∀ i (h : i < l.length), i < n → cutN l n ≤ i → (l[i]).f0 = 0 := by
  intro n
  induction n with
  | zero => intro _ i _ hi; omega
  | succ n ih =>
    intro hn i h hi hc
    rw [cutN_succ (by omega)] at hc
    by_cases hz : (l[n]).f0 = 0
    · rw [if_pos hz] at hc
      by_cases e : i = n
      · subst e; exact hz
      · exact ih (by omega) i h (by omega) hc
    · rw [if_neg hz] at hc; omega
theorem cut_last {l : List TRat} : ∀ {n : Nat}, n ≤ l.length → ∀ m, cutN l n = m + 1 → ∃ h : m < l.length, (l[m]).f0 ≠ 0 := by
  intro n
  induction n with
  | zero => intro _ m h; cases h
  | succ n ih =>
    intro hn m h
    rw [cutN_succ (by omega)] at h
    by_cases hz : (l[n]).f0 = 0
    · rw [if_pos hz] at h; exact ih (by omega) m h
    · rw [if_neg hz] at h
      obtain rfl : n = m := by omega
      exact ⟨by omega, hz⟩
theorem trim_at {t : TTerm} {i : Nat} : atT (trimT t) i = if i < cutN t.f0 t.f0.length then atT t i else ⟨0, 1⟩ := by
  unfold atT trimT
  dsimp only
  rw [List.getElem?_take]
  split <;> rfl
theorem trim_V {t : TTerm} (h : rt t = true) (i : Nat) : V (trimT t) i = V t i := by
  unfold V
  rw [trim_at]
  split
  · rfl
  · rename_i hc
    by_cases hi : i < t.f0.length
    · have hz := cut_zero (Nat.le_refl _) i hi hi (by omega)
      have ha := at_rr h i
      have e : atT t i = t.f0[i] := by unfold atT; rw [List.getElem?_eq_getElem hi]; rfl
      rw [e] at ha ⊢
      rw [qv_n, (qv_zero ha).1 hz]
    · unfold atT; rw [List.getElem?_eq_none (by omega)]; rfl
theorem trim_cn {t : TTerm} : Cn (trimT t) := by
  intro n h
  have hc := cutN_le t.f0 t.f0.length
  unfold trimT at h
  dsimp only at h
  rw [List.length_take] at h
  obtain ⟨h1, h2⟩ := cut_last (Nat.le_refl _) n (show cutN t.f0 t.f0.length = n + 1 by omega)
  rw [trim_at, if_pos (by omega)]
  unfold atT
  rw [List.getElem?_eq_getElem h1]; exact h2
theorem lst_at {f : Nat → TRat × Int} {k : TRat} {n i : Nat} : atT ⟨lst f n, k⟩ i = if i < n then (f i).1 else ⟨0, 1⟩ := by
  unfold atT lst
  dsimp only
  rw [List.getElem?_map]
  by_cases h : i < n
  · rw [List.getElem?_range h, if_pos h]; rfl
  · rw [List.getElem?_eq_none (by rw [List.length_range]; omega), if_neg h]; rfl
theorem each_ok {k : TRat × Int} {f : Nat → TRat × Int} {n : Nat} (h : n ≤ 8) (hk : in64R k.1 ∧ (k.2 = 0 → rr k.1 = true)) (hf : ∀ i, in64R (f i).1 ∧ ((f i).2 = 0 → rr (f i).1 = true)) (e : (eachT k f n).2 = 0) :
    Ok (eachT k f n).1 ∧ k.2 = 0 ∧ (∀ i, i < n → (f i).2 = 0) ∧ K (eachT k f n).1 = qv k.1 ∧ ∀ i, V (eachT k f n).1 i = if i < n then qv (f i).1 else 0 := by
  have g := each_good h hk hf
  unfold eachT at e g ⊢
  by_cases hz : k.2 = 0
  · rw [if_pos hz] at e g ⊢
    cases hq : fst n (bad f) with
    | some i =>
      rw [hq] at e
      have := (fst_some hq).2
      unfold bad at this
      simp at this
      exact absurd e this
    | none =>
      have hb0 := fst_none.1 hq
      have hz2 : ∀ i, i < n → (f i).2 = 0 := fun i hi => by have := hb0 i hi; unfold bad at this; simpa using this
      rw [hq] at g
      have hr := lst_rt (f := f) h (hk.2 hz) fun i hi => (hf i).2 (hz2 i hi)
      refine ⟨⟨g.1, g.2 rfl, trim_cn⟩, hz, hz2, rfl, fun i => ?_⟩
      dsimp only
      rw [trim_V hr]
      unfold V
      rw [lst_at]
      split
      · rfl
      · exact qv_n
  · rw [if_neg hz] at e; exact absurd e hz
theorem at_far {t : TTerm} {i : Nat} (h : t.f0.length ≤ i) : V t i = 0 := by
  unfold V atT; rw [List.getElem?_eq_none h]; exact qv_n
theorem addT_q {a b : TTerm} (h : (addT a b).2 = 0) : Ok (addT a b).1 ∧ K (addT a b).1 = K a + K b ∧ ∀ i, V (addT a b).1 i = V a i + V b i := by
  unfold addT at h ⊢
  split at h
  · rename_i hc
    rw [if_pos hc]
    simp only [Bool.and_eq_true] at hc
    have h1 := rt_len hc.1
    have h2 := rt_len hc.2
    obtain ⟨o, k0, f0, kq, vq⟩ := each_ok (by omega) (add_good _ _) (fun i => add_good _ _) h
    refine ⟨o, by rw [kq]; exact (addR_q k0).2.2, fun i => ?_⟩
    rw [vq]
    split
    · rename_i hi; exact (addR_q (f0 i hi)).2.2
    · rw [at_far (by omega), at_far (by omega)]; grind
  · cases h
theorem mulT_q {a : TTerm} {r : TRat} (h : (mulT a r).2 = 0) : rr r = true ∧ Ok (mulT a r).1 ∧ K (mulT a r).1 = K a * qv r ∧ ∀ i, V (mulT a r).1 i = V a i * qv r := by
  unfold mulT at h ⊢
  split at h
  · rename_i hc
    rw [if_pos hc]
    simp only [Bool.and_eq_true] at hc
    have h1 := rt_len hc.1
    obtain ⟨o, k0, f0, kq, vq⟩ := each_ok (by omega) (mul_good _ _) (fun i => mul_good _ _) h
    refine ⟨hc.2, o, by rw [kq]; exact (mulR_q k0).2.2, fun i => ?_⟩
    rw [vq]
    split
    · rename_i hi; exact (mulR_q (f0 i hi)).2.2
    · rw [at_far (by omega)]; grind
  · cases h
theorem lessT_q {a p : TTerm} {c : TRat} (hc : in64R c) (rc : rr c = true) (h : (lessT a p c).2 = 0) : Ok (lessT a p c).1 ∧ K (lessT a p c).1 = K a - qv c * K p ∧ ∀ i, V (lessT a p c).1 i = V a i - qv c * V p i := by
  unfold lessT at h ⊢
  split at h
  · rename_i hm
    rw [if_pos hm]
    obtain ⟨_, _, mk, mv⟩ := mulT_q hm
    obtain ⟨o, ak, av⟩ := addT_q h
    obtain ⟨_, hn⟩ := neg_q hc rc
    refine ⟨o, by rw [ak, mk, hn]; grind, fun i => by rw [av, mv, hn]; grind⟩
  · rename_i hm; exact absurd h hm
theorem own_q {t : TTerm} (h : in64T t) (hr : rt t = true) : Ok (ownT t) ∧ K (ownT t) = K t ∧ ∀ i, V (ownT t) i = V t i := by
  unfold ownT
  rw [if_pos hr]
  exact ⟨⟨trim_in h, trim_rt hr, trim_cn⟩, rfl, trim_V hr⟩
def Sm : Nat → (Nat → Rat) → Rat
  | 0, _ => 0
  | n + 1, f => Sm n f + f n
theorem Sm_congr {n : Nat} {f g : Nat → Rat} (h : ∀ i, i < n → f i = g i) : Sm n f = Sm n g := by
  induction n with
  | zero => rfl
  | succ n ih => unfold Sm; rw [ih fun i hi => h i (by omega), h n (by omega)]
theorem Sm_sub {n : Nat} {f g : Nat → Rat} {c : Rat} : Sm n (fun i => f i - c * g i) = Sm n f - c * Sm n g := by
  induction n with
  | zero => unfold Sm; grind
  | succ n ih => unfold Sm; rw [ih]; grind
theorem Sm_mul {n : Nat} {f : Nat → Rat} {c : Rat} : Sm n (fun i => f i * c) = Sm n f * c := by
  induction n with
  | zero => unfold Sm; grind
  | succ n ih => unfold Sm; rw [ih]; grind
theorem Sm_zero {n : Nat} {f : Nat → Rat} (h : ∀ i, i < n → f i = 0) : Sm n f = 0 := by
  induction n with
  | zero => rfl
  | succ n ih => unfold Sm; rw [ih fun i hi => h i (by omega), h n (by omega)]; grind
theorem Sm_one {n u : Nat} {f : Nat → Rat} (hu : u < n) (h : ∀ i, i < n → i ≠ u → f i = 0) : Sm n f = f u := by
  induction n with
  | zero => omega
  | succ n ih =>
    unfold Sm
    by_cases e : u = n
    · subst e
      rw [Sm_zero fun i hi => h i (by omega) (by omega)]; grind
    · rw [ih (by omega) fun i hi hne => h i (by omega) hne, h n (by omega) (fun x => e x.symm)]; grind
def ev (t : TTerm) (x : Nat → Rat) : Rat := K t + Sm 8 fun i => V t i * x i
theorem ev_congr {t : TTerm} {x y : Nat → Rat} (h : ∀ i, i < 8 → V t i * x i = V t i * y i) : ev t x = ev t y := by
  unfold ev; rw [Sm_congr h]
theorem ev_less {a p t : TTerm} {c : Rat} {x : Nat → Rat} (hk : K t = K a - c * K p) (hv : ∀ i, V t i = V a i - c * V p i) : ev t x = ev a x - c * ev p x := by
  unfold ev
  rw [hk, Sm_congr (g := fun i => V a i * x i - c * (V p i * x i)) fun i _ => by rw [hv]; grind, Sm_sub]; grind
theorem ev_mul {a t : TTerm} {c : Rat} {x : Nat → Rat} (hk : K t = K a * c) (hv : ∀ i, V t i = V a i * c) : ev t x = ev a x * c := by
  unfold ev
  rw [hk, Sm_congr (g := fun i => V a i * x i * c) fun i _ => by rw [hv]; grind, Sm_mul]; grind
theorem ev_own {t : TTerm} {x : Nat → Rat} (h : in64T t) (hr : rt t = true) : ev (ownT t) x = ev t x := by
  obtain ⟨_, k, v⟩ := own_q h hr
  unfold ev
  rw [k, Sm_congr fun i _ => by rw [v]]
end Go.E
end
section
set_option linter.all false
set_option maxRecDepth 10000
namespace Go.E
open Go Go.Proofs Go.Eng
theorem take_q {rows r : List Row} {a v : Nat} (ha : a < rows.length) (hg : goodL rows) (hok : ∀ i, i < rows.length → Ok (rowAt rows i).f0) (e : takeP rows a v = some r) :
    ∃ p, V (rowAt rows a).f0 v ≠ 0 ∧ Ok p ∧ (K p = K (rowAt rows a).f0 * (V (rowAt rows a).f0 v)⁻¹ ∧ ∀ i, V p i = V (rowAt rows a).f0 i * (V (rowAt rows a).f0 v)⁻¹) ∧
      (rowAt r a).f0 = p ∧ ∀ i, i < rows.length → i ≠ a → Ok (rowAt r i).f0 ∧ K (rowAt r i).f0 = K (rowAt rows i).f0 - V (rowAt rows i).f0 v * K p ∧ ∀ j, V (rowAt r i).f0 j = V (rowAt rows i).f0 j - V (rowAt rows i).f0 v * V p j := by
  obtain ⟨hb, hbad, rfl⟩ := take_some e
  obtain ⟨p, hp⟩ : ∃ p, p = (pivT rows a v).1 := ⟨_, rfl⟩
  unfold pivB at hb
  simp only [Bool.and_eq_true, decide_eq_true_eq] at hb
  obtain ⟨h1, h2⟩ := hb
  obtain ⟨_, r1, nz, iq⟩ := divR_q (at_in (hg a) v) h1
  obtain ⟨_, pok, pk, pv⟩ := mulT_q h2
  have iq' : qv (invT rows a v).1 = (V (rowAt rows a).f0 v)⁻¹ := by
    show qv (divR ⟨1, 1⟩ _).1 = _
    rw [iq, qv_1]
    show 1 * (V (rowAt rows a).f0 v)⁻¹ = _
    grind
  refine ⟨p, nz, by rw [hp]; exact pok, ⟨by rw [hp, ← iq']; exact pk, fun i => by rw [hp, ← iq']; exact pv i⟩, ?_, fun i hi hne => ?_⟩
  · rw [row_mk ha]; unfold newR; rw [if_pos rfl, hp]
  · rw [row_mk hi]
    have hb := hbad i hi
    rw [← hp] at hb ⊢
    unfold newR
    rw [if_neg hne]
    by_cases hs : skip rows a v i = true
    · rw [if_pos hs]
      have hz : V (rowAt rows i).f0 v = 0 := by
        unfold skip at hs
        simp [hne] at hs
        exact (qv_zero (at_rr (hok i hi).r v)).1 hs
      rw [hz]
      exact ⟨hok i hi, by grind, fun j => by grind⟩
    · rw [if_neg hs]
      unfold badR at hb
      rw [Bool.not_eq_true] at hs
      rw [hs] at hb
      simp at hb
      exact lessT_q (at_in (hg i) v) (at_rr (hok i hi).r v) hb
structure Rf (rows : List Row) (v : Nat) : Prop where
  w : W rows v
  ok : ∀ i, i < rows.length → Ok (rowAt rows i).f0
  un : ∀ i, i < rows.length → key rows i = -1 → ∀ u, u < v → V (rowAt rows i).f0 u = 0
  pv : ∀ i (u : Nat), i < rows.length → key rows i = (u : Int) → V (rowAt rows i).f0 u = 1 ∧ (∀ w, w < u → V (rowAt rows i).f0 w = 0) ∧ ∀ j, j < rows.length → j ≠ i → V (rowAt rows j).f0 u = 0
def Sat (rows : List Row) (x : Nat → Rat) : Prop := ∀ i, i < rows.length → ev (rowAt rows i).f0 x = 0
theorem take_sat {rows r : List Row} {a v : Nat} {x : Nat → Rat} (h : Rf rows v) (ha : a < rows.length) (e : takeP rows a v = some r) : Sat r x ↔ Sat rows x := by
  obtain ⟨p, nz, pok, ⟨pk, pv⟩, pr, po⟩ := take_q ha h.w.g h.ok e
  have rl := (take_good h.w.g e).2
  have ep := ev_mul (x := x) pk pv
  have hz : ev p x = 0 ↔ ev (rowAt rows a).f0 x = 0 := by rw [ep]; grind
  constructor
  · intro hs i hi
    have hp : ev p x = 0 := by rw [← pr]; exact hs a (by omega)
    by_cases hne : i = a
    · subst hne; exact hz.1 hp
    · obtain ⟨_, k, w⟩ := po i hi hne
      have := ev_less (x := x) k w
      have h2 := hs i (by omega)
      rw [h2, hp] at this
      grind
  · intro hs i hi
    have hp : ev p x = 0 := hz.2 (hs a ha)
    by_cases hne : i = a
    · subst hne; rw [pr]; exact hp
    · obtain ⟨_, k, w⟩ := po i (by omega) hne
      rw [ev_less k w, hs i (by omega), hp]; grind
theorem take_Rf {rows r : List Row} {a v : Nat} (h : Rf rows v) (hp : pick rows v = some a) (e : takeP rows a v = some r) : Rf r (v + 1) := by
  obtain ⟨ha, hk, _⟩ := pick_some hp
  obtain ⟨p, nz, pok, ⟨pk, pv⟩, pr, po⟩ := take_q ha h.w.g h.ok e
  have rl := (take_good h.w.g e).2
  have p1 : V p v = 1 := by rw [pv]; grind
  have p0 : ∀ u, u < v → V p u = 0 := fun u hu => by rw [pv, h.un a ha hk u hu]; grind
  have kv : ∀ k, k < rows.length → key rows k ≠ (v : Int) := fun k hk => by
    rcases h.w.r k hk with h1 | ⟨u, h1, h2⟩ <;> omega
  refine ⟨step_W h.w (by unfold stepP; rw [hp]; exact e), fun i hi => ?_, fun i hi hki u hu => ?_, fun i u hi hki => ?_⟩
  · by_cases hne : i = a
    · subst hne; rw [pr]; exact pok
    · exact (po i (by omega) hne).1
  · rw [take_key e (by omega)] at hki
    have hne : i ≠ a := by intro hne; rw [if_pos hne] at hki; omega
    rw [if_neg hne] at hki
    obtain ⟨_, _, w⟩ := po i (by omega) hne
    rw [w]
    by_cases hu' : u = v
    · subst hu'; rw [p1]; grind
    · rw [h.un i (by omega) hki u (by omega), p0 u (by omega)]; grind
  · rw [take_key e (by omega)] at hki
    by_cases hne : i = a
    · subst hne
      rw [if_pos rfl] at hki
      obtain rfl : v = u := by omega
      rw [pr]
      refine ⟨p1, p0, fun j hj hji => ?_⟩
      obtain ⟨_, _, w⟩ := po j (by omega) hji
      rw [w, p1]; grind
    · rw [if_neg hne] at hki
      have huv : u < v := by
        rcases h.w.r i (by omega) with h1 | ⟨u', h1, h2⟩ <;> omega
      obtain ⟨h1, h2, h3⟩ := h.pv i u (by omega) hki
      obtain ⟨_, _, w⟩ := po i (by omega) hne
      refine ⟨by rw [w, h1, p0 u huv]; grind, fun x hx => by rw [w, h2 x hx, p0 x (by omega)]; grind, fun j hj hji => ?_⟩
      by_cases hja : j = a
      · subst hja; rw [pr]; exact p0 u huv
      · obtain ⟨_, _, w'⟩ := po j (by omega) hja
        rw [w', h3 j (by omega) hji, p0 u huv]; grind
theorem step_Rf {rows r : List Row} {v : Nat} (h : Rf rows v) (e : stepP rows v = some r) : Rf r (v + 1) ∧ ∀ x, Sat r x ↔ Sat rows x := by
  cases hp : pick rows v with
  | none =>
    have e0 := e
    unfold stepP at e
    rw [hp] at e
    cases e
    refine ⟨⟨step_W h.w e0, h.ok, fun i hi hk u hu => ?_, h.pv⟩, fun x => Iff.rfl⟩
    by_cases hu' : u = v
    · subst hu'
      have := fst_none.1 hp i hi
      unfold hit at this
      unfold key at hk
      rw [decide_eq_true hk] at this
      simp at this
      exact (qv_zero (at_rr (h.ok i hi).r u)).1 this
    · exact h.un i hi hk u (by omega)
  | some a =>
    have e0 := e
    unfold stepP at e
    rw [hp] at e
    exact ⟨take_Rf h hp e, fun x => take_sat h (pick_some hp).1 e⟩
theorem run_Rf : ∀ (k i : Nat) (rows r : List Row), Rf rows i → runF rows (List.range' i k) = some r → Rf r (i + k) ∧ ∀ x, Sat r x ↔ Sat rows x := by
  intro k
  induction k with
  | zero => intro i rows r h e; cases e; exact ⟨h, fun x => Iff.rfl⟩
  | succ k ih =>
    intro i rows r h e
    rw [List.range'_succ] at e
    unfold runF at e
    cases hs : stepP rows i with
    | none => rw [hs] at e; cases e
    | some r1 =>
      rw [hs] at e
      obtain ⟨s1, s2⟩ := step_Rf h hs
      obtain ⟨h1, h2⟩ := ih (i + 1) r1 r s1 e
      exact ⟨by rw [show i + (k + 1) = i + 1 + k by omega]; exact h1, fun x => (h2 x).trans (s2 x)⟩
theorem start_Rf {l : List TTerm} (h : inL l) (hr : ∀ t ∈ l, rt t = true) : Rf (startL l) 0 ∧ ∀ x, Sat (startL l) x ↔ ∀ t ∈ l, ev t x = 0 := by
  have sl : (startL l).length = l.length := mk_len
  have hw := start_W h
  have rw0 : ∀ i, i < l.length → rowAt (startL l) i = ⟨ownT (tAt l i), -1⟩ := fun i hi => by unfold startL; rw [row_mk hi]
  have ht : ∀ i, i < l.length → tAt l i ∈ l := fun i hi => by rw [← t_of hi]; exact List.getElem_mem hi
  refine ⟨⟨hw, fun i hi => ?_, fun i hi hk u hu => by omega, fun i u hi hk => ?_⟩, fun x => ⟨fun hs t htl => ?_, fun hs i hi => ?_⟩⟩
  · rw [sl] at hi
    rw [rw0 i hi]
    exact (own_q (t_in h i) (hr _ (ht i hi))).1
  · rcases hw.r i hi with h1 | ⟨u', h1, h2⟩ <;> omega
  · obtain ⟨i, hi, rfl⟩ := List.getElem_of_mem htl
    have := hs i (by omega)
    rw [rw0 i hi, ev_own (t_in h i) (hr _ (ht i hi))] at this
    rw [t_of hi]; exact this
  · rw [sl] at hi
    rw [rw0 i hi, ev_own (t_in h i) (hr _ (ht i hi))]
    exact hs _ (ht i hi)
structure Red (U : List Row) : Prop where
  asc : U.Pairwise fun a b => a.f1 < b.f1
  ok : ∀ r ∈ U, Ok r.f0
  pv : ∀ r ∈ U, ∃ u : Nat, u < 8 ∧ r.f1 = (u : Int) ∧ V r.f0 u = 1 ∧ (∀ w, w < u → V r.f0 w = 0) ∧ ∀ s ∈ U, s.f1 ≠ r.f1 → V s.f0 u = 0
theorem used_Red {r : List Row} (h : Rf r 8) : Red (usedR r) := by
  refine ⟨used_asc, fun x hx => ?_, fun x hx => ?_⟩
  · unfold usedR at hx
    obtain ⟨p, hp, rfl⟩ := List.mem_map.1 hx
    exact h.ok _ (pair_mem hp).1
  · unfold usedR at hx
    obtain ⟨p, hp, rfl⟩ := List.mem_map.1 hx
    obtain ⟨p1, p2, p3⟩ := pair_mem hp
    obtain ⟨h1, h2, h3⟩ := h.pv _ _ p1 p3
    refine ⟨p.2, p2, p3, h1, h2, fun s hs hne => ?_⟩
    unfold usedR at hs
    obtain ⟨q, hq, rfl⟩ := List.mem_map.1 hs
    exact h3 _ (pair_mem hq).1 fun e => hne (by rw [e])
theorem sol_sem {l : List TTerm} (h : inL l) : ((solP l).2.2 = 2) ∨ ((∀ t ∈ l, rt t = true) ∧ (((solP l).2.2 = 1 ∧ (solP l).1 = [] ∧ (solP l).2.1 = [] ∧ ∀ x, ¬ ∀ t ∈ l, ev t x = 0) ∨
    ∃ r, W r 8 ∧ solP l = ((usedR r).map (fun x => x.f0), (usedR r).map (fun x => x.f1), 0) ∧ Red (usedR r) ∧ ∀ x, (∀ t ∈ l, ev t x = 0) ↔ ∀ s ∈ usedR r, ev s.f0 x = 0)) := by
  unfold solP
  cases hb : l.any (fun t => !rt t) with
  | true => exact .inl rfl
  | false =>
    have hr : ∀ t ∈ l, rt t = true := fun t ht => by
      have := List.any_eq_false.1 hb t ht
      simpa using this
    obtain ⟨s0, s1⟩ := start_Rf h hr
    rw [if_neg (by decide)]
    cases hq : runF (startL l) (List.range 8) with
    | none => exact .inl rfl
    | some r =>
      right
      refine ⟨hr, ?_⟩
      rw [List.range_eq_range'] at hq
      obtain ⟨f, fs⟩ := run_Rf 8 0 _ _ s0 hq
      have f : Rf r 8 := by simpa using f
      dsimp only
      unfold endP
      cases hc : r.any badC with
      | true =>
        left
        refine ⟨rfl, rfl, rfl, fun x hx => ?_⟩
        obtain ⟨y, hy, hyb⟩ := List.any_eq_true.1 hc
        obtain ⟨i, hi, rfl⟩ := List.getElem_of_mem hy
        rw [row_of hi] at hyb
        unfold badC at hyb
        simp at hyb
        have h1 := (fs x).2 ((s1 x).2 hx) i hi
        unfold ev at h1
        rw [Sm_zero fun j hj => by rw [f.un i hi hyb.1 j hj]; grind] at h1
        have ho := (f.ok i hi).r
        unfold rt at ho
        simp only [Bool.and_eq_true] at ho
        have : K (rowAt r i).f0 = 0 := by grind
        exact hyb.2 ((qv_zero ho.1.2).2 this)
      | false =>
        right
        refine ⟨r, f.w, rfl, used_Red f, fun x => ?_⟩
        rw [← s1 x, ← fs x]
        constructor
        · intro hs s hsu
          have := ((used_mem f.w s).1 hsu).1
          obtain ⟨i, hi, rfl⟩ := List.getElem_of_mem this
          rw [row_of hi]; exact hs i hi
        · intro hs i hi
          by_cases hk : key r i = -1
          · unfold ev
            rw [Sm_zero fun j hj => by rw [f.un i hi hk j hj]; grind]
            have := List.any_eq_false.1 hc _ (List.getElem_mem hi)
            rw [row_of hi] at this
            unfold badC at this
            unfold key at hk
            rw [decide_eq_true hk] at this
            simp at this
            have ho := (f.ok i hi).r
            unfold rt at ho
            simp only [Bool.and_eq_true] at ho
            have := (qv_zero ho.1.2).1 this
            show K (rowAt r i).f0 + 0 = 0
            unfold K; rw [this]; grind
          · exact hs _ ((used_mem f.w _).2 ⟨by rw [← row_of hi]; exact List.getElem_mem hi, hk⟩)
end Go.E
end
section
set_option linter.all false
set_option maxRecDepth 10000
namespace Go.E
open Go Go.Proofs Go.Eng
theorem Sm_split {n : Nat} {f g h : Nat → Rat} (e : ∀ i, i < n → f i = g i + h i) : Sm n f = Sm n g + Sm n h := by
  induction n with
  | zero => unfold Sm; grind
  | succ n ih => unfold Sm; rw [ih fun i hi => e i (by omega), e n (by omega)]; grind
def piv (U : List Row) (w : Nat) : Option Row := U.find? fun r => decide (r.f1 = (w : Int))
theorem piv_some {U : List Row} {w : Nat} {r : Row} (h : piv U w = some r) : r ∈ U ∧ r.f1 = (w : Int) := by
  refine ⟨List.mem_of_find?_eq_some h, ?_⟩
  have := List.find?_some h
  simpa using this
theorem piv_none {U : List Row} {w : Nat} (h : piv U w = none) : ∀ r ∈ U, r.f1 ≠ (w : Int) := fun r hr e => by
  have := List.find?_eq_none.1 h r hr
  simp [e] at this
theorem red_one {U : List Row} (h : Red U) {a b : Row} (ha : a ∈ U) (hb : b ∈ U) (e : a.f1 = b.f1) : a = b := by
  obtain ⟨i, hi, rfl⟩ := List.getElem_of_mem ha
  obtain ⟨j, hj, rfl⟩ := List.getElem_of_mem hb
  have hp := List.pairwise_iff_getElem.1 h.asc
  rcases Nat.lt_trichotomy i j with hlt | hlt | hlt
  · have := hp i j hi hj hlt; omega
  · subst hlt; rfl
  · have := hp j i hj hi hlt; omega
theorem piv_mem {U : List Row} (h : Red U) {r : Row} (hr : r ∈ U) {w : Nat} (e : r.f1 = (w : Int)) : piv U w = some r := by
  cases hq : piv U w with
  | none => exact absurd e (piv_none hq r hr)
  | some s =>
    obtain ⟨h1, h2⟩ := piv_some hq
    rw [red_one h h1 hr (by rw [h2, e])]
def fre (U : List Row) (y : Nat → Rat) (w : Nat) : Rat := if (piv U w).isSome then 0 else y w
def sol (U : List Row) (y : Nat → Rat) (w : Nat) : Rat := match piv U w with | some r => -(ev r.f0 (fre U y)) | none => y w
theorem sol_ok {U : List Row} (h : Red U) (y : Nat → Rat) {r : Row} (hr : r ∈ U) : ev r.f0 (sol U y) = 0 := by
  obtain ⟨u, u8, hu, v1, v0, vo⟩ := h.pv r hr
  have pu := piv_mem h hr hu
  have e : Sm 8 (fun i => V r.f0 i * sol U y i) = Sm 8 (fun i => V r.f0 i * fre U y i) + Sm 8 (fun i => if i = u then sol U y u else 0) := by
    refine Sm_split fun i hi => ?_
    by_cases e : i = u
    · subst e
      rw [if_pos rfl, v1]
      have : fre U y i = 0 := by unfold fre; rw [pu]; rfl
      rw [this]; grind
    · rw [if_neg e]
      cases hq : piv U i with
      | none =>
        have : sol U y i = fre U y i := by unfold sol fre; rw [hq]; rfl
        rw [this]; grind
      | some s =>
        obtain ⟨s1, s2⟩ := piv_some hq
        obtain ⟨u', _, hu', _, _, vo'⟩ := h.pv s s1
        obtain rfl : i = u' := by omega
        rw [vo' r hr (by omega)]; grind
  unfold ev
  rw [e, Sm_one u8 (f := fun i => if i = u then sol U y u else 0) fun i _ hne => if_neg hne, if_pos rfl]
  have : sol U y u = -(ev r.f0 (fre U y)) := by unfold sol; rw [pu]
  rw [this]
  unfold ev
  grind
end Go.E
end
section
set_option linter.all false
set_option maxRecDepth 10000
namespace Go.E
open Go Go.Proofs Go.Eng
def cmpR (a b : TRat) : Int := if rr a && rr b then (if qv a < qv b then -1 else if qv a = qv b then 0 else 1) else 0
theorem q_lt {a b c d : Int} (h : BallQ.Right a b) (ha : BallQ.In64 a) (hb : BallQ.In64 b) (k : BallQ.Right c d) (hc : BallQ.In64 c) (hd : BallQ.In64 d) : BallQ.q a b < BallQ.q c d ↔ a * d < c * b := by
  obtain ⟨h0, h1, _⟩ := BallQ.q_right h ha hb
  obtain ⟨k0, k1, _⟩ := BallQ.q_right k hc hd
  rw [Rat.lt_iff, h0, h1, k0, k1]
theorem eqR_ne {a b : TRat} (h : a ≠ b) : eqTRat a b = false := by
  cases a; cases b
  unfold eqTRat
  rw [Bool.eq_false_iff]
  intro e
  simp only [Bool.and_eq_true, decide_eq_true_eq] at e
  exact h (by rw [e.1, e.2])
theorem cmpE {a b : TRat} (ha : in64R a) (hb : in64R b) : m_rat_Compare a b = some (cmpR a b) := by
  unfold m_rat_Compare cmpR
  rw [rR ha]
  simp only [some_bind']
  cases h1 : rr a with
  | false => rfl
  | true =>
    rw [rR hb]
    simp only [some_bind']
    cases h2 : rr b with
    | false => rfl
    | true =>
      simp only [Bool.not_true, ifB_false, Bool.and_self, if_true]
      by_cases e : a = b
      · subst e
        rw [eqR_self, if_neg (Rat.lt_irrefl), if_pos rfl]; rfl
      · rw [eqR_ne e]
        have ra := rr_right h1
        have rb := rr_right h2
        have hw : IntKind.wrap .i64 (0 - b.f0) = -b.f0 := by
          obtain ⟨⟨n1, n2⟩, _⟩ := hb
          have := rb.2.1
          rw [wrap_i64 (by omega) (by omega)]; omega
        have i1 : BallQ.In64 (-b.f0) := by
          obtain ⟨⟨n1, n2⟩, _⟩ := hb
          have := rb.2.1
          constructor <;> omega
        have l1 : qv a < qv b ↔ a.f0 * b.f1 < b.f0 * a.f1 := q_lt ra ha.1 ha.2 rb hb.1 hb.2
        have l2 : qv b < qv a ↔ b.f0 * a.f1 < a.f0 * b.f1 := q_lt rb hb.1 hb.2 ra ha.1 ha.2
        have hne : qv a ≠ qv b := fun h => e (qv_inj ha hb h1 h2 h)
        have hval : a.f0 * b.f1 + -b.f0 * a.f1 = a.f0 * b.f1 - b.f0 * a.f1 := by rw [Int.neg_mul]; omega
        have h0 : a.f0 * b.f1 + -b.f0 * a.f1 ≠ 0 := by
          rw [hval]
          intro h
          by_cases h1 : qv a < qv b
          · rw [l1] at h1; omega
          · by_cases h2 : qv b < qv a
            · rw [l2] at h2; omega
            · exact hne (Rat.le_antisymm (Rat.not_lt.1 h2) (Rat.not_lt.1 h1))
        unfold m_rat_sum
        rw [hw, rq_true (decide_eq_true ⟨ha.1, hb.2, i1, ha.2, h0⟩)]
        simp only [some_bind', ifB_false]
        by_cases hlt : qv a < qv b
        · rw [if_pos hlt, decide_eq_true (by rw [hval]; rw [l1] at hlt; omega)]; rfl
        · rw [if_neg hlt, if_neg hne, decide_eq_false (by rw [hval]; rw [l1] at hlt; omega)]; rfl
def subR (a b : TRat) : TRat × Int := if rr b then addR a (neg b) else (⟨0, 0⟩, 2)
theorem subE {a b : TRat} (ha : in64R a) (hb : in64R b) : m_rat_Sub a b = some (subR a b) := by
  unfold m_rat_Sub subR m_rat_minus
  rw [rR hb]
  cases rr b with
  | false => rfl
  | true =>
    have := aR ha (neg_in hb)
    unfold neg at this
    simp only [some_bind', Bool.not_true, ifB_false, this]
    rfl
theorem sub_good (a b : TRat) : in64R (subR a b).1 ∧ ((subR a b).2 = 0 → rr (subR a b).1 = true) := by
  unfold subR
  split
  · exact add_good _ _
  · exact ⟨z64, fun e => by cases e⟩
def valL : List TRat → List TRat → TRat → TRat × Int
  | c :: cs, a :: xs, s => if (mulR c a).2 = 0 then (if (addR s (mulR c a).1).2 = 0 then valL cs xs (addR s (mulR c a).1).1 else (⟨0, 0⟩, (addR s (mulR c a).1).2)) else (⟨0, 0⟩, (mulR c a).2)
  | [], _, s => (s, 0)
  | _ :: _, [], s => (s, 0)
def valT (t : TTerm) (at' : List TRat) : TRat × Int := if rt t && (at'.take 8).all rr then valL t.f0 (at'.take 8) t.f1 else (⟨0, 0⟩, 2)
theorem valL_nil {cs : List TRat} {s : TRat} : valL cs [] s = (s, 0) := by cases cs <;> rfl
theorem valL_in : ∀ (cs xs : List TRat) (s : TRat), in64R s → in64R (valL cs xs s).1
  | [], _, s, h => by cases ‹List TRat› <;> exact h
  | c :: cs, [], s, h => h
  | c :: cs, a :: xs, s, h => by
    unfold valL
    split
    · split
      · exact valL_in cs xs _ (add_good _ _).1
      · exact z64
    · exact z64
theorem valT_in {t : TTerm} {l : List TRat} (h : in64T t) : in64R (valT t l).1 := by
  unfold valT
  split
  · exact valL_in _ _ _ h.k
  · exact z64
theorem valE {t : TTerm} {l : List TRat} (ht : in64T t) (hl : ∀ r ∈ l, in64R r) (hn : l.length ≤ 1000) : m_term_Value t l = some (valT t l) := by
  unfold m_term_Value valT
  have e1 : (if 8 < (l.length : Int) then (8 : Int) else (l.length : Int)) = ((min 8 l.length : Nat) : Int) := by split <;> omega
  have ek : l.take (min 8 l.length) = l.take 8 := by
    by_cases h : l.length ≤ 8
    · rw [Nat.min_eq_right h, List.take_of_length_le h, List.take_length]
    · rw [Nat.min_eq_left (by omega)]
  rw [e1, subL_take (Nat.min_le_right _ _), ek]
  simp only [some_bind']
  rw [tR ht]
  have kin : ∀ r ∈ l.take 8, in64R r := fun r hr => hl r (List.mem_of_mem_take hr)
  have klen : (l.take 8).length ≤ 8 := by simp; omega
  generalize l.take 8 = k at kin klen ⊢
  have hk : m_term_Right ⟨k, ⟨0, 1⟩⟩ = some (k.all rr) := by
    rw [tR ⟨n64, kin, by dsimp only; omega⟩]
    unfold rt
    dsimp only
    rw [decide_eq_true klen, nR]; simp
  unfold m_term_nought
  cases hr : rt t with
  | false => rfl
  | true =>
    simp only [some_bind', Bool.not_true, ifB_false, hk]
    cases hkr : k.all rr with
    | false => rfl
    | true =>
      simp only [Bool.not_true, ifB_false, Bool.and_self, if_true]
      have e2 : (if (k.length : Int) < (t.f0.length : Int) then (k.length : Int) else (t.f0.length : Int)) = ((min k.length t.f0.length : Nat) : Int) := by split <;> omega
      rw [e2, subL_take (Nat.min_le_right _ _)]
      simp only [some_bind']
      have lt := rt_len hr
      obtain ⟨n, hn'⟩ : ∃ n, n = min k.length t.f0.length := ⟨_, rfl⟩
      rw [← hn']
      have tl : (t.f0.take n).length = n := by rw [List.length_take]; omega
      have main : ∀ (j i : Nat) (s : TRat), i + j = n → in64R s → loopO (m_term_Value_L0 (t.f0.take n) k) ((i : Int), s.f0, s.f1) = some (if (valL (t.f0.drop i) (k.drop i) s).2 = 0 then .inl ((valL (t.f0.drop i) (k.drop i) s).1.f0, (valL (t.f0.drop i) (k.drop i) s).1.f1) else .inr (⟨0, 0⟩, (valL (t.f0.drop i) (k.drop i) s).2)) := by
        intro j
        induction j with
        | zero =>
          intro i s hi hs
          have : valL (t.f0.drop i) (k.drop i) s = (s, 0) := by
            by_cases h : i < t.f0.length
            · rw [List.drop_of_length_le (l := k) (by omega), valL_nil]
            · rw [List.drop_of_length_le (l := t.f0) (by omega)]; rfl
          rw [this]
          refine loopO_inr ?_
          unfold m_term_Value_L0
          dsimp only
          rw [tl, decide_eq_false (by omega)]; rfl
        | succ j ih =>
          intro i s hi hs
          have h1 : i < t.f0.length := by omega
          have h2 : i < k.length := by omega
          have g1 : gi (t.f0.take n) (i : Int) = some t.f0[i] := by rw [gi_of (by omega), List.getElem_take]
          rw [List.drop_eq_getElem_cons h1, List.drop_eq_getElem_cons h2]
          have b : m_term_Value_L0 (t.f0.take n) k ((i : Int), s.f0, s.f1) = if (mulR t.f0[i] k[i]).2 = 0 then (if (addR s (mulR t.f0[i] k[i]).1).2 = 0 then some (.inl (((i + 1 : Nat) : Int), (addR s (mulR t.f0[i] k[i]).1).1.f0, (addR s (mulR t.f0[i] k[i]).1).1.f1)) else some (.inr (.inr (⟨0, 0⟩, (addR s (mulR t.f0[i] k[i]).1).2)))) else some (.inr (.inr (⟨0, 0⟩, (mulR t.f0[i] k[i]).2))) := by
            unfold m_term_Value_L0
            dsimp only
            rw [tl, decide_eq_true (show (i : Int) < (n : Int) by omega), ifB_true, g1, gi_of h2]
            simp only [some_bind', mR (ht.c _ (List.getElem_mem h1)) (kin _ (List.getElem_mem h2))]
            by_cases c1 : (mulR t.f0[i] k[i]).2 = 0
            · rw [if_pos c1, decide_eq_true c1]
              have := aR (a := ⟨s.f0, s.f1⟩) hs (mul_good t.f0[i] k[i]).1
              simp only [Bool.not_true, ifB_false, this, some_bind']
              by_cases c2 : (addR s (mulR t.f0[i] k[i]).1).2 = 0
              · rw [if_pos c2]
                rw [decide_eq_true c2, wrap_succ (by omega)]; rfl
              · rw [if_neg c2]
                rw [decide_eq_false c2]; rfl
            · rw [if_neg c1, decide_eq_false c1]; rfl
          unfold valL
          by_cases c1 : (mulR t.f0[i] k[i]).2 = 0
          · rw [if_pos c1] at b ⊢
            by_cases c2 : (addR s (mulR t.f0[i] k[i]).1).2 = 0
            · rw [if_pos c2] at b ⊢
              rw [loopO_inl b]
              exact ih (i + 1) _ (by omega) (add_good _ _).1
            · rw [if_neg c2] at b ⊢
              rw [loopO_inr b, if_neg c2]
          · rw [if_neg c1] at b ⊢
            rw [loopO_inr b, if_neg c1]
      have := main n 0 t.f1 (by omega) ht.k
      rw [List.drop_zero, List.drop_zero] at this
      rw [show ((0 : Int)) = ((0 : Nat) : Int) from rfl, this]
      have sz : ∀ cs xs s, (valL cs xs s).2 ≠ 0 → (valL cs xs s).1 = ⟨0, 0⟩ := by
        intro cs
        induction cs with
        | nil => intro xs s h; exact absurd rfl h
        | cons c cs ih =>
          intro xs s h
          cases xs with
          | nil => exact absurd rfl h
          | cons a xs =>
            unfold valL at h ⊢
            split
            · rename_i c1
              rw [if_pos c1] at h
              split
              · rename_i c2
                rw [if_pos c2] at h
                exact ih _ _ h
              · rfl
            · rfl
      by_cases hz : (valL t.f0 k t.f1).2 = 0
      · rw [if_pos hz]
        simp only [some_bind']
        show some (_, (0 : Int)) = _
        rw [← hz]
      · rw [if_neg hz]
        simp only [some_bind']
        rw [← sz _ _ _ hz]
end Go.E
end
