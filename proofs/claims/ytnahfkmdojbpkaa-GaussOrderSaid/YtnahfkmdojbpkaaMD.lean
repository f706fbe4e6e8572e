import Derived.Test.YtnahfkmdojbpkaaMF
import Derived.Test.YtnahfkmdojbpkaaBRefI
import Derived.Test.YtnahfkmdojbpkaaEMd
set_option linter.all false
set_option maxRecDepth 100000
namespace Go.E
open Go Go.Proofs Go.Eng
variable {TB : Nat → Option Obj}
structure TRat where
  f0 : Int
  f1 : Int
@[go_sem] def cTRat (x : TRat) : List PV := [.int .i64 x.f0, .int .i64 x.f1]
@[go_sem] theorem sz_TRat (l : List TRat) : sizes (l.map cTRat) 2 = True := sizes_m (c := cTRat) (n := 2) (fun _ => rfl) l
structure TTerm where
  f0 : List TRat
  f1 : TRat
@[go_sem] def cTTerm (x : TTerm) : List PV := [.sl (x.f0.map cTRat), .int .i64 x.f1.f0, .int .i64 x.f1.f1]
@[go_sem] theorem sz_TTerm (l : List TTerm) : sizes (l.map cTTerm) 3 = True := sizes_m (c := cTTerm) (n := 3) (fun _ => rfl) l
structure TGauss_row where
  f0 : TTerm
  f1 : Int
@[go_sem] def cTGauss_row (x : TGauss_row) : List PV := [.sl (x.f0.f0.map cTRat), .int .i64 x.f0.f1.f0, .int .i64 x.f0.f1.f1, .int .i64 x.f1]
@[go_sem] theorem sz_TGauss_row (l : List TGauss_row) : sizes (l.map cTGauss_row) 4 = True := sizes_m (c := cTGauss_row) (n := 4) (fun _ => rfl) l
structure TGauss_system where
  f0 : List TGauss_row
  f1 : Bool
@[go_sem] def cTGauss_system (x : TGauss_system) : List PV := [.sl (x.f0.map cTGauss_row), .bool x.f1]
@[go_sem] theorem sz_TGauss_system (l : List TGauss_system) : sizes (l.map cTGauss_system) 2 = True := sizes_m (c := cTGauss_system) (n := 2) (fun _ => rfl) l
def eqTRat (x y : TRat) : Bool := decide (x.f0 = y.f0) && decide (x.f1 = y.f1)
theorem eqr_TRat (a0 b0 : Int) (a1 b1 : Int) (w : World) : (do eqGuard .eql 36 (.const undef) (.const undef) (.agg #[.int .i64 a0, .int .i64 a1]) (.agg #[.int .i64 b0, .int .i64 b1]); Op.equal 36 (.agg #[.int .i64 a0, .int .i64 a1]) (.agg #[.int .i64 b0, .int .i64 b1]) : Sem Bool).run Try.prog w = .ok (decide (a0 = b0) && decide (a1 = b1)) w := by
  go_simp
  show Sem.run Try.prog (Op.equalIn 10000 _ _ _) w = _
  go_simp
  try simp only [toL]
  by_cases e0 : a0 = b0 <;> by_cases e1 : a1 = b1 <;> simp [e0, e1]
theorem eqS_TRat (x y : TRat) {K : GV → Prop} {neg : Bool} (h : K (.p (.bool (if neg then !(eqTRat x y) else eqTRat x y)))) : gEqS Try.prog 36 [.p (.int .i64 x.f0), .p (.int .i64 x.f1)] [.p (.int .i64 y.f0), .p (.int .i64 y.f1)] neg K :=
  ⟨_, fun w => eqr_TRat _ _ _ _ w, h⟩
def in64R (r : TRat) : Prop := BallQ.In64 r.f0 ∧ BallQ.In64 r.f1
instance (r : TRat) : Decidable (in64R r) := inferInstanceAs (Decidable (_ ∧ _))
def toR (x : Int × Int × Int) : TRat × Int := (⟨x.1, x.2.1⟩, x.2.2)
noncomputable def m_rat_Right (a0 : TRat) : Option Bool := Option.bind (rq (decide (in64R a0))) fun _ => some (decide (BallQ.Right a0.f0 a0.f1))
noncomputable def m_rat_Add (a0 a1 : TRat) : Option (TRat × Int) := Option.bind (rq (decide (in64R a0 ∧ in64R a1))) fun _ => some (toR (addS a0.f0 a0.f1 a1.f0 a1.f1))
noncomputable def m_rat_Mul (a0 a1 : TRat) : Option (TRat × Int) := Option.bind (rq (decide (in64R a0 ∧ in64R a1))) fun _ => some (toR (mulS a0.f0 a0.f1 a1.f0 a1.f1))
noncomputable def m_rat_Div (a0 : TRat) (a1 : TRat) : Option (TRat × Int) :=
 Option.bind (m_rat_Right a0) fun r1 =>  Option.bind  (ifB (!r1)  (some (true))  (Option.bind (m_rat_Right a1) fun r5 =>  ifB (!r5)  (some (true))  (some (decide (a1.f0 = 0)))) : Option (Bool)) fun v2 =>  ifB v2  (some (((⟨0, 0⟩ : TRat), 2)))  (ifB (decide (a1.f0 < 0))  (Option.bind (m_rat_Mul a0 (⟨IntKind.wrap .i64 (0 - a1.f1), IntKind.wrap .i64 (0 - a1.f0)⟩ : TRat)) fun r10 =>  some ((r10.1, r10.2)))  (Option.bind (m_rat_Mul a0 (⟨a1.f1, a1.f0⟩ : TRat)) fun r11 =>  some ((r11.1, r11.2))))
noncomputable def m_ref01_Right (a0 : TRat) : Option Bool := Option.bind (rq (decide (in64R a0))) fun _ => some (decide (BallQ.Right a0.f0 a0.f1))
noncomputable def m_ref01_Do (a0 : Int) (a1 a2 : TRat) : Option (TRat × Int) := Option.bind (rq (decide (in64R a1 ∧ in64R a2))) fun _ => if a0 = 0 then some (toR (addS a1.f0 a1.f1 a2.f0 a2.f1)) else if a0 = 2 then some (toR (mulS a1.f0 a1.f1 a2.f0 a2.f1)) else if a0 = 3 then some (toR (divS a1.f0 a1.f1 a2.f0 a2.f1)) else none
noncomputable def m_slices_IndexFunc_api_Rat_L0 (a0 : List TRat) (a1 : (TRat → Option Bool)) : Int → Option ((Int) ⊕ ((Unit) ⊕ (Int)))
 | v4 =>
 ifB (decide (v4 < (a0.length : Int)))  (Option.bind (gi a0 v4) fun v6 =>  Option.bind (a1 v6) fun r7 =>  ifB r7  (some (.inr (.inr v4)))  (some (.inl (IntKind.wrap .i64 (v4 + 1)))))  (some (.inr (.inl ())))
noncomputable def m_slices_IndexFunc_api_Rat (a0 : List TRat) (a1 : (TRat → Option Bool)) : Option Int :=
 Option.bind (loopO (m_slices_IndexFunc_api_Rat_L0 a0 a1) (0)) fun z => (match z with  | .inl _ =>  (some (-1))  | .inr r => (some r))
noncomputable def m_slices_ContainsFunc_api_Rat (a0 : List TRat) (a1 : (TRat → Option Bool)) : Option Bool :=
 Option.bind (m_slices_IndexFunc_api_Rat a0 a1) fun r1 =>  some (decide (0 ≤ r1))
def m_slices_Clone_api_Rat (l : List TRat) : Option (List TRat) := Option.bind (rq (decide (l.length ≤ 1000000))) fun _ => some l
noncomputable def m_slices_Clone_api_Rat_A : Code := match Try.f52.body with
  | some (.seq _ (.seq (.seq _ r) _)) => r
  | _ => .skip
noncomputable def m_slices_Clone_api_Rat_B : Code := match Try.f52.body with
  | some (.seq _ (.seq (.seq _ _) r)) => r
  | _ => .skip

noncomputable def m_term_nought  : Option TRat :=
 some ((⟨0, 1⟩ : TRat))
noncomputable def m_term_At (a0 : TTerm) (a1 : Int) : Option TRat :=
 ifB (decide (a1 < 0))  (Option.bind (m_term_nought) fun r2 =>  some (r2))  (ifB (decide ((a0.f0.length : Int) ≤ a1))  (Option.bind (m_term_nought) fun r4 =>  some (r4))  (Option.bind (gi a0.f0 a1) fun v5 =>  some (v5)))
noncomputable def m_term_one (a0 : TTerm) (a1 : Int) : Option TRat :=
 ifB (decide (a1 < 0))  (some (a0.f1))  (Option.bind (m_term_At a0 a1) fun r2 =>  some (r2))
noncomputable def m_term_Right_1 (a0 : TRat) : Option Bool :=
 Option.bind (m_rat_Right a0) fun r1 =>  some ((!r1))
noncomputable def m_term_Right (a0 : TTerm) : Option Bool :=
 ifB (decide ((a0.f0.length : Int) ≤ 8))  (Option.bind (m_rat_Right a0.f1) fun r2 =>  ifB r2  (Option.bind (m_slices_ContainsFunc_api_Rat a0.f0 (fun x0 => m_term_Right_1 x0)) fun r4 =>  some ((!r4)))  (some (false)))  (some (false))
noncomputable def m_term_trim_L0 (a0 : TTerm) : Int → Option ((Int) ⊕ ((Int)))
 | v4 =>
 Option.bind  (ifB (decide (0 < v4))  (Option.bind (gi a0.f0 (IntKind.wrap .i64 (v4 - 1))) fun v9 =>  some (decide (v9.f0 = 0)))  (some (false)) : Option (Bool)) fun v6 =>  ifB v6  (some (.inl (IntKind.wrap .i64 (v4 - 1))))  (some (.inr (v4)))
noncomputable def m_term_trim (a0 : TTerm) : Option TTerm :=
 Option.bind (loopO (m_term_trim_L0 a0) ((a0.f0.length : Int))) fun v5 =>  (Option.bind (subL a0.f0 0 v5) fun v13 =>  Option.bind (m_slices_Clone_api_Rat v13) fun r14 =>  some ((⟨r14, a0.f1⟩ : TTerm)))
noncomputable def m_term_Own (a0 : TTerm) : Option TTerm :=
 Option.bind (m_term_Right a0) fun r1 =>  ifB (!r1)  (Option.bind (m_term_nought) fun r3 =>  some ((⟨[], r3⟩ : TTerm)))  (Option.bind (m_term_trim a0) fun r4 =>  some (r4))
noncomputable def m_term_Scale_1 (a0 : Int) (u0 : TTerm) (u1 : TRat) : Option (TRat × Int) :=
 Option.bind (m_term_one u0 a0) fun r1 =>  Option.bind (m_rat_Mul r1 u1) fun r2 =>  some ((r2.1, r2.2))
noncomputable def m_term_Add_1 (a0 : Int) (u0 : TTerm) (u1 : TTerm) : Option (TRat × Int) :=
 Option.bind (m_term_one u0 a0) fun r1 =>  Option.bind (m_term_one u1 a0) fun r2 =>  Option.bind (m_rat_Add r1 r2) fun r3 =>  some ((r3.1, r3.2))
noncomputable def m_term_each_L0 (a0 : Int) (a1 : (Int → Option (TRat × Int))) : (Int × (List TRat) × Int × Int) → Option ((Int × (List TRat) × Int × Int) ⊕ (((List TRat) × Int × Int) ⊕ (TTerm × Int)))
 | (v12, v13, v15, v16) =>
 ifB (decide (v12 < (IntKind.wrap .i64 (a0 + 1))))  (Option.bind (a1 (IntKind.wrap .i64 (v12 - 1))) fun r22 =>  ifB (!decide (r22.2 = 0))  (some (.inr (.inr ((⟨[], (⟨0, 0⟩ : TRat)⟩ : TTerm), r22.2))))  (Option.bind  (ifB (decide (v12 = 0))  (some (v13, r22.1.f0, r22.1.f1))  (Option.bind (rq (decide (v13.length + ([r22.1]).length ≤ 1000000))) fun _ =>  some ((v13 ++ ([r22.1])), v15, v16)) : Option ((List TRat) × Int × Int)) fun z => (match z with  | (v24, v26, v27) =>  (some (.inl (IntKind.wrap .i64 (v12 + 1), v24, v26, v27))))))  (some (.inr (.inl (v13, v15, v16))))
noncomputable def m_term_each (a0 : Int) (a1 : (Int → Option (TRat × Int))) : Option (TTerm × Int) :=
 Option.bind (loopO (m_term_each_L0 a0 a1) ((0, [], 0, 0))) fun z => (match z with  | .inl (v17, v19, v20) =>  (Option.bind (m_term_trim (⟨v17, (⟨v19, v20⟩ : TRat)⟩ : TTerm)) fun r34 =>  some ((r34, 0)))  | .inr r => (some r))
noncomputable def m_term_Add (a0 : TTerm) (a1 : TTerm) : Option (TTerm × Int) :=
 Option.bind (m_term_Right a0) fun r1 =>  Option.bind  (ifB (!r1)  (some (true))  (Option.bind (m_term_Right a1) fun r5 =>  some ((!r5))) : Option (Bool)) fun v2 =>  ifB v2  (some (((⟨[], (⟨0, 0⟩ : TRat)⟩ : TTerm), 2)))  (Option.bind (m_term_each (if (a0.f0.length : Int) < (a1.f0.length : Int) then (a1.f0.length : Int) else (a0.f0.length : Int)) (fun x0 => m_term_Add_1 x0 a0 a1)) fun r8 =>  some ((r8.1, r8.2)))
noncomputable def m_term_Scale (a0 : TTerm) (a1 : TRat) : Option (TTerm × Int) :=
 Option.bind (m_term_Right a0) fun r1 =>  Option.bind  (ifB (!r1)  (some (true))  (Option.bind (m_rat_Right a1) fun r5 =>  some ((!r5))) : Option (Bool)) fun v2 =>  ifB v2  (some (((⟨[], (⟨0, 0⟩ : TRat)⟩ : TTerm), 2)))  (Option.bind (m_term_each (a0.f0.length : Int) (fun x0 => m_term_Scale_1 x0 a0 a1)) fun r8 =>  some ((r8.1, r8.2)))
noncomputable def m_ref02_zero  : Option TRat :=
 some ((⟨0, 1⟩ : TRat))
noncomputable def m_ref02_At (a0 : TTerm) (a1 : Int) : Option TRat :=
 ifB (decide (a1 < 0))  (Option.bind (m_ref02_zero) fun r2 =>  some (r2))  (ifB (decide ((a0.f0.length : Int) ≤ a1))  (Option.bind (m_ref02_zero) fun r4 =>  some (r4))  (Option.bind (gi a0.f0 a1) fun v5 =>  some (v5)))
noncomputable def m_ref02_Right_L0 (a0 : TTerm) : Int → Option ((Int) ⊕ ((Unit) ⊕ (Bool)))
 | v4 =>
 ifB (decide (v4 < (a0.f0.length : Int)))  (Option.bind (gi a0.f0 v4) fun v6 =>  Option.bind (m_ref01_Right v6) fun r7 =>  ifB (!r7)  (some (.inr (.inr false)))  (some (.inl (IntKind.wrap .i64 (v4 + 1)))))  (some (.inr (.inl ())))
noncomputable def m_ref02_Right (a0 : TTerm) : Option Bool :=
 Option.bind (loopO (m_ref02_Right_L0 a0) (0)) fun z => (match z with  | .inl _ =>  (ifB (decide ((a0.f0.length : Int) ≤ 8))  (Option.bind (m_ref01_Right a0.f1) fun r11 =>  some (r11))  (some (false)))  | .inr r => (some r))
noncomputable def m_ref02_Own_L0 (a0 : TTerm) : (Int × Int) → Option ((Int × Int) ⊕ ((Int)))
 | (v9, v10) =>
 ifB (decide (v10 < (a0.f0.length : Int)))  (Option.bind (gi a0.f0 v10) fun v13 =>  Option.bind  (ifB (!decide (v13.f0 = 0))  (some (IntKind.wrap .i64 (v10 + 1)))  (some (v9)) : Option (Int)) fun v14 =>  some (.inl (v14, IntKind.wrap .i64 (v10 + 1))))  (some (.inr (v9)))
noncomputable def m_ref02_Own (a0 : TTerm) : Option TTerm :=
 Option.bind (m_ref02_Right a0) fun r1 =>  ifB (!r1)  (Option.bind (m_ref02_zero) fun r3 =>  some ((⟨[], r3⟩ : TTerm)))  (Option.bind (loopO (m_ref02_Own_L0 a0) ((0, 0))) fun v11 =>  (Option.bind (subL a0.f0 0 v11) fun v19 =>  Option.bind (rq (decide (([] : List TRat).length + v19.length ≤ 1000000))) fun _ =>  some ((⟨v19, a0.f1⟩ : TTerm))))
noncomputable def m_ref02_Do_L0 (a1 : TTerm) (a2 : TTerm) (a0 : Int) : (Int × (List TRat)) → Option ((Int × (List TRat)) ⊕ (((List TRat)) ⊕ (TTerm × Int)))
 | (v17, v18) =>
 Option.bind  (ifB (decide (v17 < (a1.f0.length : Int)))  (some (true))  (some (decide (v17 < (a2.f0.length : Int)))) : Option (Bool)) fun v22 =>  ifB v22  (Option.bind (m_ref02_At a2 v17) fun r27 =>  Option.bind  (ifB (decide (a0 = 2))  (some (a2.f1.f0, a2.f1.f1))  (some (r27.f0, r27.f1)) : Option (Int × Int)) fun z => (match z with  | (v28, v29) =>  (Option.bind (m_ref02_At a1 v17) fun r33 =>  Option.bind (m_ref01_Do a0 r33 (⟨v28, v29⟩ : TRat)) fun r34 =>  ifB (!decide (r34.2 = 0))  (some (.inr (.inr ((⟨[], (⟨0, 0⟩ : TRat)⟩ : TTerm), r34.2))))  (Option.bind (rq (decide (v18.length + ([r34.1]).length ≤ 1000000))) fun _ =>  some (.inl (IntKind.wrap .i64 (v17 + 1), (v18 ++ ([r34.1]))))))))  (some (.inr (.inl v18)))
noncomputable def m_ref02_Do (a0 : Int) (a1 : TTerm) (a2 : TTerm) : Option (TTerm × Int) :=
 Option.bind (m_ref02_Right a1) fun r1 =>  Option.bind  (ifB (!r1)  (some (true))  (Option.bind (m_ref02_Right a2) fun r5 =>  some ((!r5))) : Option (Bool)) fun v2 =>  ifB v2  (some (((⟨[], (⟨0, 0⟩ : TRat)⟩ : TTerm), 2)))  (Option.bind (m_ref01_Do a0 a1.f1 a2.f1) fun r8 =>  ifB (!decide (r8.2 = 0))  (some (((⟨[], (⟨0, 0⟩ : TRat)⟩ : TTerm), r8.2)))  (Option.bind (loopO (m_ref02_Do_L0 a1 a2 a0) ((0, []))) fun z => (match z with  | .inl v20 =>  (Option.bind (m_ref02_Own (⟨v20, r8.1⟩ : TTerm)) fun r39 =>  some ((r39, 0)))  | .inr r => (some r))))
noncomputable def m_ref02_Equal_L0 (a0 : TTerm) (a1 : TTerm) : Int → Option ((Int) ⊕ ((Unit) ⊕ (Bool)))
 | v9 =>
 ifB (decide (v9 < (a0.f0.length : Int)))  (Option.bind (gi a0.f0 v9) fun v11 =>  Option.bind (gi a1.f0 v9) fun v12 =>  ifB (!(eqTRat v11 v12))  (some (.inr (.inr false)))  (some (.inl (IntKind.wrap .i64 (v9 + 1)))))  (some (.inr (.inl ())))
noncomputable def m_ref02_Equal (a0 : TTerm) (a1 : TTerm) : Option Bool :=
 Option.bind  (ifB (!(eqTRat a0.f1 a1.f1))  (some (true))  (some ((!decide ((a0.f0.length : Int) = (a1.f0.length : Int))))) : Option (Bool)) fun v1 =>  ifB v1  (some (false))  (Option.bind (loopO (m_ref02_Equal_L0 a0 a1) (0)) fun z => (match z with  | .inl _ =>  (some (true))  | .inr r => (some r)))
noncomputable def m_ref02_Value_L0 (a1 : List TRat) : Int → Option ((Int) ⊕ ((Unit) ⊕ (TRat × Int)))
 | v6 =>
 Option.bind  (ifB (decide (v6 < (a1.length : Int)))  (some (decide (v6 < 8)))  (some (false)) : Option (Bool)) fun v7 =>  ifB v7  (Option.bind (gi a1 v6) fun v12 =>  Option.bind (m_ref01_Right v12) fun r13 =>  ifB (!r13)  (some (.inr (.inr ((⟨0, 0⟩ : TRat), 2))))  (some (.inl (IntKind.wrap .i64 (v6 + 1)))))  (some (.inr (.inl ())))
noncomputable def m_ref02_Value_L1 (a0 : TTerm) (a1 : List TRat) : (Int × Int × Int) → Option ((Int × Int × Int) ⊕ ((Int × Int) ⊕ (TRat × Int)))
 | (v23, v24, v25) =>
 Option.bind  (ifB (decide (v23 < (a0.f0.length : Int)))  (some (decide (v23 < (a1.length : Int))))  (some (false)) : Option (Bool)) fun v28 =>  ifB v28  (Option.bind (gi a0.f0 v23) fun v33 =>  Option.bind (gi a1 v23) fun v34 =>  Option.bind (m_ref01_Do 2 v33 v34) fun r35 =>  ifB (!decide (r35.2 = 0))  (some (.inr (.inr ((⟨0, 0⟩ : TRat), r35.2))))  (Option.bind (m_ref01_Do 0 (⟨v24, v25⟩ : TRat) r35.1) fun r37 =>  ifB (!decide (r37.2 = 0))  (some (.inr (.inr ((⟨0, 0⟩ : TRat), r37.2))))  (some (.inl (IntKind.wrap .i64 (v23 + 1), r37.1.f0, r37.1.f1)))))  (some (.inr (.inl (v24, v25))))
noncomputable def m_ref02_Value (a0 : TTerm) (a1 : List TRat) : Option (TRat × Int) :=
 Option.bind (m_ref02_Right a0) fun r1 =>  ifB (!r1)  (some (((⟨0, 0⟩ : TRat), 2)))  (Option.bind (loopO (m_ref02_Value_L0 a1) (0)) fun z => (match z with  | .inl _ =>  (Option.bind (loopO (m_ref02_Value_L1 a0 a1) ((0, a0.f1.f0, a0.f1.f1))) fun z => (match z with  | .inl (v26, v27) =>  (some (((⟨v26, v27⟩ : TRat), 0)))  | .inr r => (some r)))  | .inr r => (some r)))
noncomputable def m_ref02_Small (a0 : TTerm) : Option Bool :=
 some (decide ((a0.f0.length : Int) ≤ 12))
noncomputable def m_ref03_times (a0 : TTerm) (a1 : TRat) : Option (TTerm × Int) :=
 Option.bind (m_ref02_Do 2 a0 (⟨[], a1⟩ : TTerm)) fun r1 =>  some ((r1.1, r1.2))
noncomputable def m_ref03_Less (a0 : TTerm) (a1 : TTerm) (a2 : TRat) : Option (TTerm × Int) :=
 Option.bind (m_ref03_times a1 (⟨IntKind.wrap .i64 (0 - a2.f0), a2.f1⟩ : TRat)) fun r1 =>  ifB (!decide (r1.2 = 0))  (some (((⟨[], (⟨0, 0⟩ : TRat)⟩ : TTerm), r1.2)))  (Option.bind (m_ref02_Do 0 a0 r1.1) fun r3 =>  some ((r3.1, r3.2)))
noncomputable def m_ref03_first_L0 (a0 : List TTerm) (a1 : List Int) (a2 : Int) : Int → Option ((Int) ⊕ ((Unit) ⊕ (Int)))
 | v4 =>
 ifB (decide (v4 < (a0.length : Int)))  (Option.bind (gi a1 v4) fun v6 =>  Option.bind  (ifB (decide (v6 < 0))  (Option.bind (gi a0 v4) fun v10 =>  Option.bind (m_ref02_At v10 a2) fun r11 =>  some ((!decide (r11.f0 = 0))))  (some (false)) : Option (Bool)) fun v7 =>  ifB v7  (some (.inr (.inr v4)))  (some (.inl (IntKind.wrap .i64 (v4 + 1)))))  (some (.inr (.inl ())))
noncomputable def m_ref03_first (a0 : List TTerm) (a1 : List Int) (a2 : Int) : Option Int :=
 Option.bind (loopO (m_ref03_first_L0 a0 a1 a2) (0)) fun z => (match z with  | .inl _ =>  (some (-1))  | .inr r => (some r))
noncomputable def m_ref03_take_L0 (a0 : List TTerm) (a2 : Int) (a1 : Int) (r5 : TTerm × Int) : ((List TTerm) × Int) → Option (((List TTerm) × Int) ⊕ (((List TTerm)) ⊕ ((List TTerm) × Bool)))
 | (v14, v16) =>
 ifB (decide (v16 < (a0.length : Int)))  (Option.bind (gi a0 v16) fun v20 =>  Option.bind (m_ref02_At v20 a2) fun r21 =>  Option.bind  (ifB (decide (v16 = a1))  (some (.inl (r5.1.f0, r5.1.f1.f0, r5.1.f1.f1)))  (Option.bind  (ifB (!decide (r21.f0 = 0))  (Option.bind (m_ref03_Less v20 r5.1 r21) fun r32 =>  ifB (!decide (r32.2 = 0))  (Option.bind (Option.bind (some (.inr (.inr ([], false)))) fun y => some (.inr y)) fun y => some (.inr y))  (some (.inl (r32.1.f0, r32.1.f1.f0, r32.1.f1.f1))))  (some (.inl (v20.f0, v20.f1.f0, v20.f1.f1))) : Option (((List TRat) × Int × Int) ⊕ (((List TRat) × Int × Int) ⊕ (((List TTerm) × Int) ⊕ (((List TTerm)) ⊕ ((List TTerm) × Bool)))))) fun z => (match z with  | .inl (v27, v28, v29) =>  (some (.inl (v27, v28, v29)))  | .inr y => some y)) : Option (((List TRat) × Int × Int) ⊕ (((List TTerm) × Int) ⊕ (((List TTerm)) ⊕ ((List TTerm) × Bool))))) fun z => (match z with  | .inl (v22, v23, v24) =>  (Option.bind (rq (decide (v14.length + ([(⟨v22, (⟨v23, v24⟩ : TRat)⟩ : TTerm)]).length ≤ 1000000))) fun _ =>  some (.inl ((v14 ++ ([(⟨v22, (⟨v23, v24⟩ : TRat)⟩ : TTerm)])), IntKind.wrap .i64 (v16 + 1))))  | .inr y => some y))  (some (.inr (.inl v14)))
noncomputable def m_ref03_take (a0 : List TTerm) (a1 : Int) (a2 : Int) : Option ((List TTerm) × Bool) :=
 Option.bind (gi a0 a1) fun v1 =>  Option.bind (m_ref02_At v1 a2) fun r2 =>  Option.bind (m_ref01_Do 3 (⟨1, 1⟩ : TRat) r2) fun r3 =>  ifB (!decide (r3.2 = 0))  (some (([], false)))  (Option.bind (m_ref03_times v1 r3.1) fun r5 =>  ifB (!decide (r5.2 = 0))  (some (([], false)))  (Option.bind (loopO (m_ref03_take_L0 a0 a2 a1 r5) (([], 0))) fun z => (match z with  | .inl v17 =>  (some ((v17, true)))  | .inr r => (some r))))
noncomputable def m_ref03_Solve_L0 (a0 : List TTerm) : ((List TTerm) × Int × (List Int)) → Option (((List TTerm) × Int × (List Int)) ⊕ (((List TTerm) × (List Int)) ⊕ ((List TTerm) × (List Int) × Int)))
 | (v11, v13, v14) =>
 ifB (decide (v13 < (a0.length : Int)))  (Option.bind (gi a0 v13) fun v19 =>  Option.bind (m_ref02_Right v19) fun r20 =>  ifB (!r20)  (some (.inr (.inr ([], [], 2))))  (Option.bind (m_ref02_Own v19) fun r22 =>  Option.bind (rq (decide (v11.length + ([r22]).length ≤ 1000000))) fun _ =>  Option.bind (rq (decide ((v14 : List Int).length + ([-1]).length ≤ 1000000))) fun _ =>  some (.inl ((v11 ++ ([r22])), IntKind.wrap .i64 (v13 + 1), (v14 ++ ([-1]))))))  (some (.inr (.inl (v11, v14))))
noncomputable def m_ref03_Solve_L1  : ((List TTerm) × (List Int) × (List Int) × Int × (List Int)) → Option (((List TTerm) × (List Int) × (List Int) × Int × (List Int)) ⊕ (((List TTerm) × (List Int) × (List Int) × (List Int)) ⊕ ((List TTerm) × (List Int) × Int)))
 | (v43, v44, v46, v48, v49) =>
 ifB (decide (v48 < 8))  (Option.bind (m_ref03_first v43 v49 v48) fun r57 =>  ifB (decide (r57 < 0))  (some (.inl (v43, v44, v46, IntKind.wrap .i64 (v48 + 1), v49)))  (Option.bind (m_ref03_take v43 r57 v48) fun r59 =>  ifB (!r59.2)  (some (.inr (.inr ([], [], 2))))  (Option.bind (rq (decide (0 ≤ r57))) fun _ =>  Option.bind (rq (decide (r57 < (v49.length : Int)))) fun _ =>  Option.bind (gi v49 r57) fun v64 =>  Option.bind (rq (decide (v44.length + ([r57]).length ≤ 1000000))) fun _ =>  Option.bind (rq (decide (v46.length + ([v48]).length ≤ 1000000))) fun _ =>  some (.inl (r59.1, (v44 ++ ([r57])), (v46 ++ ([v48])), IntKind.wrap .i64 (v48 + 1), (v49.set r57.toNat v48))))))  (some (.inr (.inl (v43, v44, v46, v49))))
noncomputable def m_ref03_Solve_L2 (v50 : List TTerm) (v55 : List Int) : Int → Option ((Int) ⊕ ((Unit) ⊕ ((List TTerm) × (List Int) × Int)))
 | v73 =>
 ifB (decide (v73 < (v50.length : Int)))  (Option.bind (rq (decide (0 ≤ v73))) fun _ =>  Option.bind (rq (decide (v73 < (v55.length : Int)))) fun _ =>  Option.bind (gi v55 v73) fun v78 =>  Option.bind  (ifB (decide (v78 < 0))  (Option.bind (gi v50 v73) fun v82 =>  some ((!decide (v82.f1.f0 = 0))))  (some (false)) : Option (Bool)) fun v79 =>  ifB v79  (some (.inr (.inr ([], [], 1))))  (some (.inl (IntKind.wrap .i64 (v73 + 1)))))  (some (.inr (.inl ())))
noncomputable def m_ref03_Solve_L3 (v51 : List Int) (v50 : List TTerm) : ((List TTerm) × Int) → Option (((List TTerm) × Int) ⊕ (((List TTerm))))
 | (v93, v95) =>
 ifB (decide (v95 < (v51.length : Int)))  (Option.bind (gi v51 v95) fun v99 =>  Option.bind (gi v50 v99) fun v100 =>  Option.bind (rq (decide (v93.length + ([v100]).length ≤ 1000000))) fun _ =>  some (.inl ((v93 ++ ([v100])), IntKind.wrap .i64 (v95 + 1))))  (some (.inr (v93)))
noncomputable def m_ref03_Solve (a0 : List TTerm) : Option ((List TTerm) × (List Int) × Int) :=
 ifB (decide (400 < (a0.length : Int)))  (some (([], [], 2)))  (Option.bind (loopO (m_ref03_Solve_L0 a0) (([], 0, []))) fun z => (match z with  | .inl (v15, v17) =>  (Option.bind (loopO (m_ref03_Solve_L1) ((v15, [], [], 0, v17))) fun z => (match z with  | .inl (v50, v51, v53, v55) =>  (Option.bind (loopO (m_ref03_Solve_L2 v50 v55) (0)) fun z => (match z with  | .inl _ =>  (Option.bind (loopO (m_ref03_Solve_L3 v51 v50) (([], 0))) fun v96 =>  (some ((v96, v53, 0))))  | .inr r => (some r)))  | .inr r => (some r)))  | .inr r => (some r)))
noncomputable def m_ref03_Same_L0 (a0 : List TTerm) (a1 : List TTerm) : Int → Option ((Int) ⊕ ((Unit) ⊕ (Bool)))
 | v5 =>
 ifB (decide (v5 < (a0.length : Int)))  (Option.bind (gi a0 v5) fun v7 =>  Option.bind (gi a1 v5) fun v8 =>  Option.bind (m_ref02_Equal v7 v8) fun r9 =>  ifB (!r9)  (some (.inr (.inr false)))  (some (.inl (IntKind.wrap .i64 (v5 + 1)))))  (some (.inr (.inl ())))
noncomputable def m_ref03_Same (a0 : List TTerm) (a1 : List TTerm) : Option Bool :=
 ifB (!decide ((a0.length : Int) = (a1.length : Int)))  (some (false))  (Option.bind (loopO (m_ref03_Same_L0 a0 a1) (0)) fun z => (match z with  | .inl _ =>  (some (true))  | .inr r => (some r)))
noncomputable def m_ref03_Ints_L0 (a0 : List Int) (a1 : List Int) : Int → Option ((Int) ⊕ ((Unit) ⊕ (Bool)))
 | v5 =>
 ifB (decide (v5 < (a0.length : Int)))  (Option.bind (gi a0 v5) fun v7 =>  Option.bind (gi a1 v5) fun v8 =>  ifB (!decide (v7 = v8))  (some (.inr (.inr false)))  (some (.inl (IntKind.wrap .i64 (v5 + 1)))))  (some (.inr (.inl ())))
noncomputable def m_ref03_Ints (a0 : List Int) (a1 : List Int) : Option Bool :=
 ifB (!decide ((a0.length : Int) = (a1.length : Int)))  (some (false))  (Option.bind (loopO (m_ref03_Ints_L0 a0 a1) (0)) fun z => (match z with  | .inl _ =>  (some (true))  | .inr r => (some r)))
noncomputable def m_slices_IndexFunc_api_Term_L0 (a0 : List TTerm) (a1 : (TTerm → Option Bool)) : Int → Option ((Int) ⊕ ((Unit) ⊕ (Int)))
 | v4 =>
 ifB (decide (v4 < (a0.length : Int)))  (Option.bind (gi a0 v4) fun v6 =>  Option.bind (a1 v6) fun r7 =>  ifB r7  (some (.inr (.inr v4)))  (some (.inl (IntKind.wrap .i64 (v4 + 1)))))  (some (.inr (.inl ())))
noncomputable def m_slices_IndexFunc_api_Term (a0 : List TTerm) (a1 : (TTerm → Option Bool)) : Option Int :=
 Option.bind (loopO (m_slices_IndexFunc_api_Term_L0 a0 a1) (0)) fun z => (match z with  | .inl _ =>  (some (-1))  | .inr r => (some r))
noncomputable def m_slices_ContainsFunc_api_Term (a0 : List TTerm) (a1 : (TTerm → Option Bool)) : Option Bool :=
 Option.bind (m_slices_IndexFunc_api_Term a0 a1) fun r1 =>  some (decide (0 ≤ r1))
noncomputable def m_slices_Index_int_L0 (a0 : List Int) (a1 : Int) : Int → Option ((Int) ⊕ ((Unit) ⊕ (Int)))
 | v4 =>
 ifB (decide (v4 < (a0.length : Int)))  (Option.bind (gi a0 v4) fun v6 =>  ifB (decide (a1 = v6))  (some (.inr (.inr v4)))  (some (.inl (IntKind.wrap .i64 (v4 + 1)))))  (some (.inr (.inl ())))
noncomputable def m_slices_Index_int (a0 : List Int) (a1 : Int) : Option Int :=
 Option.bind (loopO (m_slices_Index_int_L0 a0 a1) (0)) fun z => (match z with  | .inl _ =>  (some (-1))  | .inr r => (some r))
noncomputable def m_slices_Contains_int (a0 : List Int) (a1 : Int) : Option Bool :=
 Option.bind (m_slices_Index_int a0 a1) fun r1 =>  some (decide (0 ≤ r1))
noncomputable def m_gauss_Free_L0 (a0 : List Int) : ((List Int) × Int) → Option (((List Int) × Int) ⊕ (((List Int))))
 | (v8, v10) =>
 ifB (decide (v10 < 8))  (Option.bind (m_slices_Contains_int a0 v10) fun r14 =>  Option.bind  (ifB (!r14)  (Option.bind (rq (decide (v8.length + ([v10]).length ≤ 1000000))) fun _ =>  some ((v8 ++ ([v10]))))  (some (v8)) : Option ((List Int))) fun v15 =>  some (.inl (v15, IntKind.wrap .i64 (v10 + 1))))  (some (.inr (v8)))
noncomputable def m_gauss_Free (a0 : List Int) : Option (List Int) :=
 Option.bind (loopO (m_gauss_Free_L0 a0) (([], 0))) fun v11 =>  (some (v11))
noncomputable def m_gauss_Solve_1 (a0 : TTerm) : Option Bool :=
 Option.bind (m_term_Right a0) fun r1 =>  some ((!r1))
noncomputable def m_gauss_Solve_2 (a0 : TGauss_row) (a1 : TGauss_row) : Option Int :=
 some (IntKind.wrap .i64 (a0.f1 - a1.f1))
noncomputable def m_law03_small_L0 (a0 : List TTerm) : Int → Option ((Int) ⊕ ((Unit) ⊕ (Bool)))
 | v4 =>
 ifB (decide (v4 < (a0.length : Int)))  (Option.bind (gi a0 v4) fun v6 =>  Option.bind (m_ref02_Small v6) fun r7 =>  ifB (!r7)  (some (.inr (.inr false)))  (some (.inl (IntKind.wrap .i64 (v4 + 1)))))  (some (.inr (.inl ())))
noncomputable def m_law03_small (a0 : List TTerm) : Option Bool :=
 Option.bind (loopO (m_law03_small_L0 a0) (0)) fun z => (match z with  | .inl _ =>  (some (decide ((a0.length : Int) ≤ 12)))  | .inr r => (some r))
noncomputable def m_law03_zeros_L0 (a0 : List TTerm) (a1 : List TRat) : (Bool × Int) → Option ((Bool × Int) ⊕ ((Bool) ⊕ (Bool × Bool)))
 | (v6, v7) =>
 ifB (decide (v7 < (a0.length : Int)))  (Option.bind (gi a0 v7) fun v10 =>  Option.bind (m_ref02_Value v10 a1) fun r11 =>  ifB (!decide (r11.2 = 0))  (some (.inr (.inr (false, false))))  (Option.bind  (ifB v6  (some (decide (r11.1.f0 = 0)))  (some (false)) : Option (Bool)) fun v13 =>  some (.inl (v13, IntKind.wrap .i64 (v7 + 1)))))  (some (.inr (.inl v6)))
noncomputable def m_law03_zeros (a0 : List TTerm) (a1 : List TRat) : Option (Bool × Bool) :=
 Option.bind (loopO (m_law03_zeros_L0 a0 a1) ((true, 0))) fun z => (match z with  | .inl v8 =>  (some ((v8, true)))  | .inr r => (some r))
noncomputable def m_gauss_system_keep (a0 : TGauss_system) (a1 : TTerm) (a2 : Int) : Option (TTerm × TGauss_system) :=
 ifB a0.f1  (some ((a1, (⟨a0.f0, true⟩ : TGauss_system))))  (some ((a1, (⟨a0.f0, (!decide (a2 = 0))⟩ : TGauss_system))))
theorem len_keep {a0 : TGauss_system} {a1 : TTerm} {a2 : Int} {r : TTerm × TGauss_system} (h : m_gauss_system_keep a0 a1 a2 = some r) : r.2.f0.length = a0.f0.length := by
  unfold m_gauss_system_keep at h
  rcases ib h with ⟨_, h⟩ | ⟨_, h⟩ <;> cases h <;> rfl

noncomputable def m_gauss_system_times (a0 : TGauss_system) (a1 : TTerm) (a2 : TRat) : Option (TTerm × TGauss_system) :=
 Option.bind (m_term_Scale a1 a2) fun r1 =>  Option.bind (m_gauss_system_keep a0 r1.1 r1.2) fun r2 =>  some ((r2.1, r2.2))
theorem len_times {a0 : TGauss_system} {a1 : TTerm} {a2 : TRat} {r : TTerm × TGauss_system} (h : m_gauss_system_times a0 a1 a2 = some r) : r.2.f0.length = a0.f0.length := by
  unfold m_gauss_system_times at h
  obtain ⟨r1, _, h⟩ := bs h
  obtain ⟨r2, h2, h⟩ := bs h
  cases h
  exact len_keep h2

noncomputable def m_gauss_system_take_L0 (a0 : TGauss_system) (a2 : Int) (a1 : Int) (r11 : TTerm × TGauss_system) : (Int × Bool × (List TGauss_row)) → Option ((Int × Bool × (List TGauss_row)) ⊕ ((Bool × (List TGauss_row))))
 | (v21, v22, v23) =>
 ifB (decide (v21 < (a0.f0.length : Int)))  (Option.bind (rq (decide (0 ≤ v21))) fun _ =>  Option.bind (rq (decide (v21 < (v23.length : Int)))) fun _ =>  Option.bind (gi v23 v21) fun v30 =>  Option.bind (m_term_At v30.f0 a2) fun r31 =>  Option.bind  (ifB (decide (v21 = a1))  (some (true))  (ifB (decide (r31.f0 = 0))  (some (true))  (some (v22))) : Option (Bool)) fun v32 =>  ifB v32  (some (.inl (IntKind.wrap .i64 (v21 + 1), v22, v23)))  (Option.bind (m_gauss_system_times (⟨v23, v22⟩ : TGauss_system) r11.1 (⟨IntKind.wrap .i64 (0 - r31.f0), r31.f1⟩ : TRat)) fun r38 =>  Option.bind  (ifB (!r38.2.f1)  (Option.bind (m_term_Add v30.f0 r38.1) fun r44 =>  Option.bind (m_gauss_system_keep r38.2 r44.1 r44.2) fun r45 =>  Option.bind (gi r45.2.f0 v21) fun v47 =>  some (r45.2.f1, (r45.2.f0.set v21.toNat (⟨r45.1, v47.f1⟩ : TGauss_row))))  (some (r38.2.f1, r38.2.f0)) : Option (Bool × (List TGauss_row))) fun z => (match z with  | (v40, v41) =>  (some (.inl (IntKind.wrap .i64 (v21 + 1), v40, v41))))))  (some (.inr ((v22, v23))))
noncomputable def m_gauss_system_take (a0 : TGauss_system) (a1 : Int) (a2 : Int) : Option TGauss_system :=
 Option.bind (rq (decide (0 ≤ a1))) fun _ =>  Option.bind (rq (decide (a1 < (a0.f0.length : Int)))) fun _ =>  Option.bind (gi a0.f0 a1) fun v4 =>  Option.bind (m_term_At v4.f0 a2) fun r5 =>  Option.bind (m_rat_Div (⟨1, 1⟩ : TRat) r5) fun r6 =>  Option.bind  (ifB a0.f1  (some (true))  (some ((!decide (r6.2 = 0)))) : Option (Bool)) fun v7 =>  Option.bind (m_gauss_system_times (⟨a0.f0, v7⟩ : TGauss_system) v4.f0 r6.1) fun r11 =>  Option.bind (gi r11.2.f0 a1) fun v13 =>  Option.bind (loopO (m_gauss_system_take_L0 a0 a2 a1 r11) ((0, r11.2.f1, (r11.2.f0.set a1.toNat (⟨r11.1, a2⟩ : TGauss_row))))) fun z => (match z with  | (v24, v25) =>  (some ((⟨v25, v24⟩ : TGauss_system))))
theorem len_take {a0 : TGauss_system} {a1 a2 : Int} {r : TGauss_system} (h : m_gauss_system_take a0 a1 a2 = some r) : r.f0.length = a0.f0.length := by
  unfold m_gauss_system_take at h
  obtain ⟨_, _, h⟩ := bs h
  obtain ⟨_, _, h⟩ := bs h
  obtain ⟨_, _, h⟩ := bs h
  obtain ⟨_, _, h⟩ := bs h
  obtain ⟨_, _, h⟩ := bs h
  obtain ⟨_, _, h⟩ := bs h
  obtain ⟨r11, h11, h⟩ := bs h
  obtain ⟨_, _, h⟩ := bs h
  obtain ⟨⟨v25, v26⟩, hl, h⟩ := bs h
  cases h
  refine loopO_ind (P := fun a => a.2.2.length = a0.f0.length) (Q := fun x => x.2.length = a0.f0.length) (fun a a1 hb hp => ?_) (fun a x hb hp => ?_) hl ?_
  · obtain ⟨x, y, z⟩ := a
    unfold m_gauss_system_take_L0 at hb
    dsimp only at hp hb
    rcases ib hb with ⟨_, hb⟩ | ⟨_, hb⟩
    · obtain ⟨_, _, hb⟩ := bs hb
      obtain ⟨_, _, hb⟩ := bs hb
      obtain ⟨_, _, hb⟩ := bs hb
      obtain ⟨_, _, hb⟩ := bs hb
      obtain ⟨_, _, hb⟩ := bs hb
      rcases ib hb with ⟨_, hb⟩ | ⟨_, hb⟩
      · cases hb; exact hp
      · obtain ⟨r39, h39, hb⟩ := bs hb
        obtain ⟨⟨w1, w2⟩, hw, hb⟩ := bs hb
        cases hb
        have e39 := len_times h39
        dsimp only at e39 ⊢
        rcases ib hw with ⟨_, hw⟩ | ⟨_, hw⟩
        · obtain ⟨r44, _, hw⟩ := bs hw
          obtain ⟨r45, h45, hw⟩ := bs hw
          obtain ⟨_, _, hw⟩ := bs hw
          cases hw
          rw [List.length_set, len_keep h45, e39, hp]
        · cases hw; rw [e39, hp]
    · cases hb
  · obtain ⟨x', y, z⟩ := a
    unfold m_gauss_system_take_L0 at hb
    dsimp only at hp hb
    rcases ib hb with ⟨_, hb⟩ | ⟨_, hb⟩
    · obtain ⟨_, _, hb⟩ := bs hb
      obtain ⟨_, _, hb⟩ := bs hb
      obtain ⟨_, _, hb⟩ := bs hb
      obtain ⟨_, _, hb⟩ := bs hb
      obtain ⟨_, _, hb⟩ := bs hb
      rcases ib hb with ⟨_, hb⟩ | ⟨_, hb⟩
      · cases hb
      · obtain ⟨r39, h39, hb⟩ := bs hb
        obtain ⟨⟨w1, w2⟩, hw, hb⟩ := bs hb
        cases hb
    · cases hb; exact hp
  · dsimp only
    rw [List.length_set]
    have := len_times h11
    exact this

noncomputable def m_slices_IndexFunc_gauss_row_L0 (a0 : List TGauss_row) (a1 : (TGauss_row → Option Bool)) : Int → Option ((Int) ⊕ ((Unit) ⊕ (Int)))
 | v4 =>
 ifB (decide (v4 < (a0.length : Int)))  (Option.bind (gi a0 v4) fun v6 =>  Option.bind (a1 v6) fun r7 =>  ifB r7  (some (.inr (.inr v4)))  (some (.inl (IntKind.wrap .i64 (v4 + 1)))))  (some (.inr (.inl ())))
noncomputable def m_slices_IndexFunc_gauss_row (a0 : List TGauss_row) (a1 : (TGauss_row → Option Bool)) : Option Int :=
 Option.bind (loopO (m_slices_IndexFunc_gauss_row_L0 a0 a1) (0)) fun z => (match z with  | .inl _ =>  (some (-1))  | .inr r => (some r))
noncomputable def m_gauss_system_solve_1 (a0 : TGauss_row) (u0 : Int) : Option Bool :=
 ifB (decide (a0.f1 = (-1)))  (Option.bind (m_term_At a0.f0 u0) fun r2 =>  some ((!decide (r2.f0 = 0))))  (some (false))
noncomputable def m_gauss_system_solve_L0  : (Int × Bool × (List TGauss_row)) → Option ((Int × Bool × (List TGauss_row)) ⊕ ((Bool × (List TGauss_row))))
 | (v8, v9, v10) =>
 ifB (decide (v8 < 8))  (Option.bind (m_slices_IndexFunc_gauss_row v10 (fun x0 => m_gauss_system_solve_1 x0 v8)) fun r14 =>  Option.bind  (ifB (decide (0 ≤ r14))  (some ((!v9)))  (some (false)) : Option (Bool)) fun v15 =>  Option.bind  (ifB v15  (Option.bind (m_gauss_system_take (⟨v10, v9⟩ : TGauss_system) r14 v8) fun r23 =>  some (r23.f1, r23.f0))  (some (v9, v10)) : Option (Bool × (List TGauss_row))) fun z => (match z with  | (v19, v20) =>  (some (.inl (IntKind.wrap .i64 (v8 + 1), v19, v20)))))  (some (.inr ((v9, v10))))
noncomputable def m_gauss_system_solve (a0 : TGauss_system) : Option TGauss_system :=
 Option.bind (loopO (m_gauss_system_solve_L0) ((0, a0.f1, a0.f0))) fun z => (match z with  | (v11, v12) =>  (some ((⟨v12, v11⟩ : TGauss_system))))
noncomputable def m_slices_insertionSortCmpFunc__gauss_row_L1 (a1 : Int) (a3 : (TGauss_row → TGauss_row → Option Int)) : (Int × (List TGauss_row)) → Option ((Int × (List TGauss_row)) ⊕ (((List TGauss_row))))
 | (v15, v16) =>
 Option.bind  (ifB (decide (a1 < v15))  (Option.bind (rq (decide (0 ≤ v15))) fun _ =>  Option.bind (rq (decide (v15 < (v16.length : Int)))) fun _ =>  Option.bind (gi v16 v15) fun v24 =>  Option.bind (rq (decide (0 ≤ IntKind.wrap .i64 (v15 - 1)))) fun _ =>  Option.bind (rq (decide (IntKind.wrap .i64 (v15 - 1) < (v16.length : Int)))) fun _ =>  Option.bind (gi v16 (IntKind.wrap .i64 (v15 - 1))) fun v27 =>  Option.bind (a3 v24 v27) fun r28 =>  some (decide (r28 < 0)))  (some (false)) : Option (Bool)) fun v18 =>  ifB v18  (Option.bind (rq (decide (0 ≤ IntKind.wrap .i64 (v15 - 1)))) fun _ =>  Option.bind (rq (decide (IntKind.wrap .i64 (v15 - 1) < (v16.length : Int)))) fun _ =>  Option.bind (gi v16 (IntKind.wrap .i64 (v15 - 1))) fun v34 =>  Option.bind (rq (decide (0 ≤ v15))) fun _ =>  Option.bind (rq (decide (v15 < (v16.length : Int)))) fun _ =>  Option.bind (gi v16 v15) fun v37 =>  Option.bind (gi (v16.set v15.toNat v34) (IntKind.wrap .i64 (v15 - 1))) fun v38 =>  some (.inl (IntKind.wrap .i64 (v15 - 1), ((v16.set v15.toNat v34).set ((IntKind.wrap .i64 (v15 - 1)).toNat) v37))))  (some (.inr (v16)))
noncomputable def m_slices_insertionSortCmpFunc__gauss_row_L0 (a2 : Int) (a1 : Int) (a3 : (TGauss_row → TGauss_row → Option Int)) : (Int × (List TGauss_row)) → Option ((Int × (List TGauss_row)) ⊕ (((List TGauss_row))))
 | (v6, v7) =>
 ifB (decide (v6 < a2))  (Option.bind (loopO (m_slices_insertionSortCmpFunc__gauss_row_L1 a1 a3) ((v6, v7))) fun v17 =>  (some (.inl (IntKind.wrap .i64 (v6 + 1), v17))))  (some (.inr (v7)))
noncomputable def m_slices_insertionSortCmpFunc__gauss_row (a0 : List TGauss_row) (a1 : Int) (a2 : Int) (a3 : (TGauss_row → TGauss_row → Option Int)) : Option (List TGauss_row) :=
 Option.bind (loopO (m_slices_insertionSortCmpFunc__gauss_row_L0 a2 a1 a3) ((IntKind.wrap .i64 (a1 + 1), a0))) fun v8 =>  (some (v8))
theorem len_ins {a0 : List TGauss_row} {a1 a2 : Int} {a3 : TGauss_row → TGauss_row → Option Int} {r : List TGauss_row} (h : m_slices_insertionSortCmpFunc__gauss_row a0 a1 a2 a3 = some r) : r.length = a0.length := by
  unfold m_slices_insertionSortCmpFunc__gauss_row at h
  obtain ⟨v, hv, h⟩ := bs h
  cases h
  refine loopO_ind (P := fun a => a.2.length = a0.length) (Q := fun x => x.length = a0.length) (fun a a1 hb hp => ?_) (fun a x hb hp => ?_) hv rfl
  · obtain ⟨x, y⟩ := a
    unfold m_slices_insertionSortCmpFunc__gauss_row_L0 at hb
    dsimp only at hp hb
    rcases ib hb with ⟨_, hb⟩ | ⟨_, hb⟩
    · obtain ⟨w, hw, hb⟩ := bs hb
      cases hb
      refine loopO_ind (P := fun a => a.2.length = a0.length) (Q := fun x => x.length = a0.length) (fun a a1 hb hp => ?_) (fun a x hb hp => ?_) hw hp
      · obtain ⟨x, y⟩ := a
        unfold m_slices_insertionSortCmpFunc__gauss_row_L1 at hb
        dsimp only at hp hb
        obtain ⟨_, _, hb⟩ := bs hb
        rcases ib hb with ⟨_, hb⟩ | ⟨_, hb⟩
        · obtain ⟨_, _, hb⟩ := bs hb
          obtain ⟨_, _, hb⟩ := bs hb
          obtain ⟨_, _, hb⟩ := bs hb
          obtain ⟨_, _, hb⟩ := bs hb
          obtain ⟨_, _, hb⟩ := bs hb
          obtain ⟨_, _, hb⟩ := bs hb
          obtain ⟨_, _, hb⟩ := bs hb
          cases hb
          simpa using hp
        · cases hb
      · obtain ⟨x', y⟩ := a
        unfold m_slices_insertionSortCmpFunc__gauss_row_L1 at hb
        dsimp only at hp hb
        obtain ⟨_, _, hb⟩ := bs hb
        rcases ib hb with ⟨_, hb⟩ | ⟨_, hb⟩
        · obtain ⟨_, _, hb⟩ := bs hb
          obtain ⟨_, _, hb⟩ := bs hb
          obtain ⟨_, _, hb⟩ := bs hb
          obtain ⟨_, _, hb⟩ := bs hb
          obtain ⟨_, _, hb⟩ := bs hb
          obtain ⟨_, _, hb⟩ := bs hb
          obtain ⟨_, _, hb⟩ := bs hb
          cases hb
        · cases hb; exact hp
    · cases hb
  · obtain ⟨x', y⟩ := a
    unfold m_slices_insertionSortCmpFunc__gauss_row_L0 at hb
    dsimp only at hp hb
    rcases ib hb with ⟨_, hb⟩ | ⟨_, hb⟩
    · obtain ⟨w, hw, hb⟩ := bs hb
      cases hb
    · cases hb; exact hp

noncomputable def m_slices_stableCmpFunc__gauss_row_L0 (a1 : Int) (a2 : (TGauss_row → TGauss_row → Option Int)) : (Int × Int × (List TGauss_row)) → Option ((Int × Int × (List TGauss_row)) ⊕ ((Int × (List TGauss_row))))
 | (v8, v9, v10) =>
 ifB (decide (v9 ≤ a1))  (Option.bind (m_slices_insertionSortCmpFunc__gauss_row v10 v8 v9 a2) fun r14 =>  some (.inl (v9, IntKind.wrap .i64 (v9 + 20), r14)))  (some (.inr ((v8, v10))))
noncomputable def m_slices_stableCmpFunc__gauss_row_L2 (v22 : Int) (a1 : Int) : Unit → Option ((Unit) ⊕ ((Unit)))
 | _ =>
 ifB (decide ((IntKind.wrap .i64 (2 * v22)) ≤ a1))  (none)  (some (.inr (())))
noncomputable def m_slices_stableCmpFunc__gauss_row_L1 (a1 : Int) : Int → Option ((Int) ⊕ ((Unit)))
 | v22 =>
 ifB (decide (v22 < a1))  (Option.bind (loopO (m_slices_stableCmpFunc__gauss_row_L2 v22 a1) (())) fun _ =>  (ifB (decide ((IntKind.wrap .i64 (0 + v22)) < a1))  (none)  (some (.inl (IntKind.wrap .i64 (v22 * 2))))))  (some (.inr (())))
noncomputable def m_slices_stableCmpFunc__gauss_row (a0 : List TGauss_row) (a1 : Int) (a2 : (TGauss_row → TGauss_row → Option Int)) : Option (List TGauss_row) :=
 Option.bind (loopO (m_slices_stableCmpFunc__gauss_row_L0 a1 a2) ((0, 20, a0))) fun z => (match z with  | (v11, v12) =>  (Option.bind (m_slices_insertionSortCmpFunc__gauss_row v12 v11 a1 a2) fun r17 =>  Option.bind (loopO (m_slices_stableCmpFunc__gauss_row_L1 a1) (20)) fun _ =>  (some (r17))))
theorem len_stable {a0 : List TGauss_row} {a1 : Int} {a2 : TGauss_row → TGauss_row → Option Int} {r : List TGauss_row} (h : m_slices_stableCmpFunc__gauss_row a0 a1 a2 = some r) : r.length = a0.length := by
  unfold m_slices_stableCmpFunc__gauss_row at h
  obtain ⟨⟨v11, v12⟩, hv, h⟩ := bs h
  obtain ⟨r16, h16, h⟩ := bs h
  obtain ⟨_, _, h⟩ := bs h
  cases h
  rw [len_ins h16]
  refine loopO_ind (P := fun a => a.2.2.length = a0.length) (Q := fun x => x.2.length = a0.length) (fun a a1 hb hp => ?_) (fun a x hb hp => ?_) hv rfl
  · obtain ⟨x, y, z⟩ := a
    unfold m_slices_stableCmpFunc__gauss_row_L0 at hb
    dsimp only at hp hb
    rcases ib hb with ⟨_, hb⟩ | ⟨_, hb⟩
    · obtain ⟨w, hw, hb⟩ := bs hb
      cases hb
      rw [len_ins hw]; exact hp
    · cases hb
  · obtain ⟨x', y, z⟩ := a
    unfold m_slices_stableCmpFunc__gauss_row_L0 at hb
    dsimp only at hp hb
    rcases ib hb with ⟨_, hb⟩ | ⟨_, hb⟩
    · obtain ⟨w, hw, hb⟩ := bs hb
      cases hb
    · cases hb; exact hp

noncomputable def m_slices_SortStableFunc_gauss_row (a0 : List TGauss_row) (a1 : (TGauss_row → TGauss_row → Option Int)) : Option (List TGauss_row) :=
 Option.bind (m_slices_stableCmpFunc__gauss_row a0 (a0.length : Int) a1) fun r1 =>  some (r1)
theorem len_sort {a0 : List TGauss_row} {a1 : TGauss_row → TGauss_row → Option Int} {r : List TGauss_row} (h : m_slices_SortStableFunc_gauss_row a0 a1 = some r) : r.length = a0.length := by
  unfold m_slices_SortStableFunc_gauss_row at h
  obtain ⟨v, hv, h⟩ := bs h
  cases h
  exact len_stable hv

noncomputable def m_gauss_Solve_L0 (a0 : List TTerm) : (Int × (List TGauss_row)) → Option ((Int × (List TGauss_row)) ⊕ (((List TGauss_row))))
 | (v12, v13) =>
 ifB (decide (v12 < (a0.length : Int)))  (Option.bind (gi a0 v12) fun v16 =>  Option.bind (m_term_Own v16) fun r17 =>  Option.bind (rq (decide ((v13 : List TGauss_row).length + ([(⟨r17, -1⟩ : TGauss_row)]).length ≤ 1000000))) fun _ =>  some (.inl (IntKind.wrap .i64 (v12 + 1), (v13 ++ ([(⟨r17, -1⟩ : TGauss_row)])))))  (some (.inr (v13)))
noncomputable def m_gauss_Solve_L1 (r21 : TGauss_system) (r23 : List TGauss_row) : ((List TTerm) × (List Int) × Int) → Option (((List TTerm) × (List Int) × Int) ⊕ (((List TTerm) × (List Int)) ⊕ ((List TTerm) × (List Int) × Int)))
 | (v36, v38, v40) =>
 ifB (decide (v40 < (r21.f0.length : Int)))  (Option.bind (rq (decide (0 ≤ v40))) fun _ =>  Option.bind (rq (decide (v40 < (r21.f0.length : Int)))) fun _ =>  Option.bind (gi r23 v40) fun v49 =>  Option.bind  (ifB (!decide (v49.f1 = (-1)))  (Option.bind (rq (decide (v36.length + ([v49.f0]).length ≤ 1000000))) fun _ =>  Option.bind (rq (decide (v38.length + ([v49.f1]).length ≤ 1000000))) fun _ =>  some (.inl ((v36 ++ ([v49.f0])), (v38 ++ ([v49.f1])))))  (ifB (!decide (v49.f0.f1.f0 = 0))  (Option.bind (some (.inr (.inr ([], [], 1)))) fun y => some (.inr y))  (some (.inl (v36, v38)))) : Option (((List TTerm) × (List Int)) ⊕ (((List TTerm) × (List Int) × Int) ⊕ (((List TTerm) × (List Int)) ⊕ ((List TTerm) × (List Int) × Int))))) fun z => (match z with  | .inl (v50, v52) =>  (some (.inl (v50, v52, IntKind.wrap .i64 (v40 + 1))))  | .inr y => some y))  (some (.inr (.inl (v36, v38))))
noncomputable def m_gauss_Solve (a0 : List TTerm) : Option ((List TTerm) × (List Int) × Int) :=
 Option.bind  (ifB (decide (400 < (a0.length : Int)))  (some (true))  (Option.bind (m_slices_ContainsFunc_api_Term a0 (fun x0 => m_gauss_Solve_1 x0)) fun r4 =>  some (r4)) : Option (Bool)) fun v1 =>  ifB v1  (some (([], [], 2)))  (Option.bind (loopO (m_gauss_Solve_L0 a0) ((0, []))) fun v14 =>  (Option.bind (m_gauss_system_solve (⟨v14, false⟩ : TGauss_system)) fun r21 =>  ifB r21.f1  (some (([], [], 2)))  (Option.bind (m_slices_SortStableFunc_gauss_row r21.f0 (fun x0 x1 => m_gauss_Solve_2 x0 x1)) fun r23 =>  Option.bind (loopO (m_gauss_Solve_L1 r21 r23) (([], [], 0))) fun z => (match z with  | .inl (v41, v43) =>  (some ((v41, v43, 0)))  | .inr r => (some r)))))
noncomputable def m_law03_awake  : Option Bool :=
 Option.bind (m_gauss_Solve ([(⟨[(⟨1, 1⟩ : TRat), (⟨1, 1⟩ : TRat)], (⟨-1, 1⟩ : TRat)⟩ : TTerm), (⟨[(⟨1, 1⟩ : TRat), (⟨-1, 1⟩ : TRat)], (⟨0, 1⟩ : TRat)⟩ : TTerm)])) fun r1 =>  Option.bind (m_gauss_Solve ([(⟨[], (⟨1, 1⟩ : TRat)⟩ : TTerm)])) fun r2 =>  ifB (decide (r1.2.2 = 0))  (ifB (decide (r2.2.2 = 1))  (ifB (decide ((r1.1.length : Int) = 2))  (ifB (decide ((r1.2.1.length : Int) = 2))  (Option.bind (gi r1.1 0) fun v7 =>  ifB (eqTRat v7.f1 (⟨-1, 2⟩ : TRat))  (Option.bind (gi r1.1 1) fun v9 =>  ifB (eqTRat v9.f1 (⟨-1, 2⟩ : TRat))  (Option.bind (m_gauss_Free r1.2.1) fun r11 =>  some (decide ((r11.length : Int) = 6)))  (some (false)))  (some (false)))  (some (false)))  (some (false)))  (some (false)))  (some (false))
noncomputable def m_law03_GaussSolves (a0 : List TTerm) : Option Bool :=
 Option.bind (m_law03_awake) fun r1 =>  Option.bind  (ifB (!r1)  (some (true))  (Option.bind (m_law03_small a0) fun r5 =>  some ((!r5))) : Option (Bool)) fun v2 =>  ifB v2  (Option.bind (m_law03_awake) fun r8 =>  some (r8))  (Option.bind (m_gauss_Solve a0) fun r9 =>  Option.bind (m_ref03_Solve a0) fun r10 =>  ifB (decide (r9.2.2 = r10.2.2))  (Option.bind (m_ref03_Same r9.1 r10.1) fun r12 =>  ifB r12  (Option.bind (m_ref03_Ints r9.2.1 r10.2.1) fun r14 =>  some (r14))  (some (false)))  (some (false)))
noncomputable def m_law03_GaussKeeps (a0 : List TTerm) (a1 : List TRat) : Option Bool :=
 Option.bind (m_law03_awake) fun r1 =>  Option.bind  (ifB (!r1)  (some (true))  (Option.bind (m_law03_small a0) fun r5 =>  ifB (!r5)  (some (true))  (some (decide (12 < (a1.length : Int))))) : Option (Bool)) fun v2 =>  ifB v2  (Option.bind (m_law03_awake) fun r9 =>  some (r9))  (Option.bind (m_gauss_Solve a0) fun r10 =>  ifB (decide (r10.2.2 = 2))  (some (true))  (Option.bind (m_law03_zeros a0 a1) fun r12 =>  Option.bind (m_law03_zeros r10.1 a1) fun r13 =>  Option.bind  (ifB (!r12.2)  (some (true))  (some ((!r13.2))) : Option (Bool)) fun v14 =>  ifB v14  (some (true))  (ifB (decide (r10.2.2 = 1))  (some ((!r12.1)))  (ifB (r12.1 == r13.1)  (Option.bind (m_gauss_Free r10.2.1) fun r21 =>  some (decide ((IntKind.wrap .i64 ((r21.length : Int) + (r10.2.1.length : Int))) = 8)))  (some (false))))))
noncomputable def m_law03_GaussTwice (a0 : List TTerm) : Option Bool :=
 Option.bind (m_law03_awake) fun r1 =>  Option.bind  (ifB (!r1)  (some (true))  (Option.bind (m_law03_small a0) fun r5 =>  some ((!r5))) : Option (Bool)) fun v2 =>  ifB v2  (Option.bind (m_law03_awake) fun r8 =>  some (r8))  (Option.bind (m_gauss_Solve a0) fun r9 =>  ifB (!decide (r9.2.2 = 0))  (ifB (decide ((r9.1.length : Int) = 0))  (some (decide ((r9.2.1.length : Int) = 0)))  (some (false)))  (Option.bind (m_gauss_Solve r9.1) fun r12 =>  ifB (decide (r12.2.2 = 0))  (Option.bind (m_ref03_Same r9.1 r12.1) fun r14 =>  ifB r14  (Option.bind (m_ref03_Ints r9.2.1 r12.2.1) fun r16 =>  some (r16))  (some (false)))  (some (false))))
noncomputable def m_law03_GaussPivots_L1 (r9 : (List TTerm) × (List Int) × Int) (v14 : Int) : Int → Option ((Int) ⊕ ((Unit) ⊕ (Bool)))
 | v30 =>
 ifB (decide (v30 < (r9.1.length : Int)))  (Option.bind  (ifB (decide (v30 = v14))  (some (1))  (some (0)) : Option (Int)) fun v32 =>  Option.bind (gi r9.1 v30) fun v36 =>  Option.bind (gi r9.2.1 v14) fun v37 =>  Option.bind (m_ref02_At v36 v37) fun r38 =>  ifB (!(eqTRat r38 (⟨v32, 1⟩ : TRat)))  (some (.inr (.inr false)))  (some (.inl (IntKind.wrap .i64 (v30 + 1)))))  (some (.inr (.inl ())))
noncomputable def m_law03_GaussPivots_L0 (r9 : (List TTerm) × (List Int) × Int) : Int → Option ((Int) ⊕ ((Unit) ⊕ (Bool)))
 | v14 =>
 ifB (decide (v14 < (r9.2.1.length : Int)))  (Option.bind  (ifB (decide (0 < v14))  (Option.bind (gi r9.2.1 v14) fun v19 =>  Option.bind (gi r9.2.1 (IntKind.wrap .i64 (v14 - 1))) fun v20 =>  ifB (decide (v19 ≤ v20))  (some (true))  (ifB (decide (v19 < 0))  (some (true))  (some (decide (7 < v19)))))  (Option.bind (gi r9.2.1 v14) fun v23 =>  ifB (decide (v23 < 0))  (some (true))  (some (decide (7 < v23)))) : Option (Bool)) fun v16 =>  ifB v16  (some (.inr (.inr false)))  (Option.bind (loopO (m_law03_GaussPivots_L1 r9 v14) (0)) fun z => (match z with  | .inl _ =>  (some (.inl (IntKind.wrap .i64 (v14 + 1))))  | .inr r => (some (.inr (.inr r))))))  (some (.inr (.inl ())))
noncomputable def m_law03_GaussPivots (a0 : List TTerm) : Option Bool :=
 Option.bind (m_law03_awake) fun r1 =>  Option.bind  (ifB (!r1)  (some (true))  (Option.bind (m_law03_small a0) fun r5 =>  some ((!r5))) : Option (Bool)) fun v2 =>  ifB v2  (Option.bind (m_law03_awake) fun r8 =>  some (r8))  (Option.bind (m_gauss_Solve a0) fun r9 =>  ifB (!decide (r9.2.2 = 0))  (some (true))  (Option.bind (loopO (m_law03_GaussPivots_L0 r9) (0)) fun z => (match z with  | .inl _ =>  (some (decide ((r9.1.length : Int) = (r9.2.1.length : Int))))  | .inr r => (some r))))
noncomputable def m_law03_GaussOrder (a0 : List TTerm) (a1 : Int) : Option Bool :=
 Option.bind (m_law03_awake) fun r1 =>  Option.bind  (ifB (!r1)  (some (true))  (Option.bind (m_law03_small a0) fun r5 =>  ifB (!r5)  (some (true))  (some (decide ((a0.length : Int) = 0)))) : Option (Bool)) fun v2 =>  ifB v2  (Option.bind (m_law03_awake) fun r9 =>  some (r9))  (Option.bind (rq (decide ((a0.length : Int) ≠ 0))) fun _ =>  Option.bind (subL a0 (Int.tmod (IntKind.wrap .i64 a1) (a0.length : Int)) (a0.length : Int)) fun v11 =>  Option.bind (rq (decide (([] : List TTerm).length + v11.length ≤ 1000000))) fun _ =>  Option.bind (subL a0 0 (Int.tmod (IntKind.wrap .i64 a1) (a0.length : Int))) fun v14 =>  Option.bind (rq (decide ((([] : List TTerm) ++ v11).length + v14.length ≤ 1000000))) fun _ =>  Option.bind (m_gauss_Solve a0) fun r17 =>  Option.bind (m_gauss_Solve ((([] : List TTerm) ++ v11) ++ v14)) fun r18 =>  Option.bind  (ifB (decide (r17.2.2 = 2))  (some (true))  (some (decide (r18.2.2 = 2))) : Option (Bool)) fun v19 =>  ifB v19  (some (true))  (ifB (decide (r17.2.2 = r18.2.2))  (Option.bind (m_ref03_Ints r17.2.1 r18.2.1) fun r25 =>  ifB r25  (Option.bind (m_ref03_Same r17.1 r18.1) fun r27 =>  some (r27))  (some (false)))  (some (false))))
end Go.E
