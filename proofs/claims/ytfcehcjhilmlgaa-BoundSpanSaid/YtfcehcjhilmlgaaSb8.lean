import Derived.Test.YtfcehcjhilmlgaaSb7
section
set_option linter.all false
set_option maxRecDepth 100000
namespace Go.E
open Go Go.Proofs Go.Eng
variable {TB : Nat → Option Obj}
structure TRat where
  f0 : Int
  f1 : Int
@[go_sem] def cTRat (x : TRat) : List PV := [.int .i64 x.f0, .int .i64 x.f1]
@[go_sem] theorem sz_TRat (l : List TRat) : sizes (l.map cTRat) 2 = True := sizes_m (c := cTRat) (n := 2) (fun _ => rfl) l
structure TTerm where
  f0 : List TRat
  f1 : TRat
@[go_sem] def cTTerm (x : TTerm) : List PV := [.sl (x.f0.map cTRat), .int .i64 x.f1.f0, .int .i64 x.f1.f1]
@[go_sem] theorem sz_TTerm (l : List TTerm) : sizes (l.map cTTerm) 3 = True := sizes_m (c := cTTerm) (n := 3) (fun _ => rfl) l
structure TGauss_row where
  f0 : TTerm
  f1 : Int
@[go_sem] def cTGauss_row (x : TGauss_row) : List PV := [.sl (x.f0.f0.map cTRat), .int .i64 x.f0.f1.f0, .int .i64 x.f0.f1.f1, .int .i64 x.f1]
@[go_sem] theorem sz_TGauss_row (l : List TGauss_row) : sizes (l.map cTGauss_row) 4 = True := sizes_m (c := cTGauss_row) (n := 4) (fun _ => rfl) l
structure TGauss_system where
  f0 : List TGauss_row
  f1 : Bool
@[go_sem] def cTGauss_system (x : TGauss_system) : List PV := [.sl (x.f0.map cTGauss_row), .bool x.f1]
@[go_sem] theorem sz_TGauss_system (l : List TGauss_system) : sizes (l.map cTGauss_system) 2 = True := sizes_m (c := cTGauss_system) (n := 2) (fun _ => rfl) l
structure TRow where
  f0 : Int
  f1 : TTerm
@[go_sem] def cTRow (x : TRow) : List PV := [.int .i64 x.f0, .sl (x.f1.f0.map cTRat), .int .i64 x.f1.f1.f0, .int .i64 x.f1.f1.f1]
@[go_sem] theorem sz_TRow (l : List TRow) : sizes (l.map cTRow) 4 = True := sizes_m (c := cTRow) (n := 4) (fun _ => rfl) l
structure TBound_engine where
  f0 : Bool
@[go_sem] def cTBound_engine (x : TBound_engine) : List PV := [.bool x.f0]
@[go_sem] theorem sz_TBound_engine (l : List TBound_engine) : sizes (l.map cTBound_engine) 1 = True := sizes_m (c := cTBound_engine) (n := 1) (fun _ => rfl) l
structure TBound_stage where
  f0 : List TRow
  f1 : List TRow
@[go_sem] def cTBound_stage (x : TBound_stage) : List PV := [.sl (x.f0.map cTRow), .sl (x.f1.map cTRow)]
@[go_sem] theorem sz_TBound_stage (l : List TBound_stage) : sizes (l.map cTBound_stage) 2 = True := sizes_m (c := cTBound_stage) (n := 2) (fun _ => rfl) l
structure TS37 where
  f0 : Bool
  f1 : Bool
@[go_sem] def cTS37 (x : TS37) : List PV := [.bool x.f0, .bool x.f1]
@[go_sem] theorem sz_TS37 (l : List TS37) : sizes (l.map cTS37) 2 = True := sizes_m (c := cTS37) (n := 2) (fun _ => rfl) l
structure TPerm where
  f0 : Int
  f1 : TRat
  f2 : Int
  f3 : Int
@[go_sem] def cTPerm (x : TPerm) : List PV := [.int .i64 x.f0, .int .i64 x.f1.f0, .int .i64 x.f1.f1, .int .i64 x.f2, .int .u32 x.f3]
@[go_sem] theorem sz_TPerm (l : List TPerm) : sizes (l.map cTPerm) 5 = True := sizes_m (c := cTPerm) (n := 5) (fun _ => rfl) l
structure TContract where
  f0 : ByteArray
  f1 : Bool
  f2 : ByteArray
  f3 : Int
  f4 : TRat
  f5 : Int
  f6 : Int
  f7 : Int
@[go_sem] def cTContract (x : TContract) : List PV := [.str x.f0, .bool x.f1, .str x.f2, .int .i64 x.f3, .int .i64 x.f4.f0, .int .i64 x.f4.f1, .int .u32 x.f5, .int .u32 x.f6, .int .u32 x.f7]
@[go_sem] theorem sz_TContract (l : List TContract) : sizes (l.map cTContract) 9 = True := sizes_m (c := cTContract) (n := 9) (fun _ => rfl) l
structure TLend_left where
  f0 : TPerm
  f1 : Bool
@[go_sem] def cTLend_left (x : TLend_left) : List PV := [.int .i64 x.f0.f0, .int .i64 x.f0.f1.f0, .int .i64 x.f0.f1.f1, .int .i64 x.f0.f2, .int .u32 x.f0.f3, .bool x.f1]
@[go_sem] theorem sz_TLend_left (l : List TLend_left) : sizes (l.map cTLend_left) 6 = True := sizes_m (c := cTLend_left) (n := 6) (fun _ => rfl) l
structure TLend_caller where
  f0 : List TPerm
  f1 : List TLend_left
  f2 : List Int
  f3 : List Int
  f4 : List TRat
@[go_sem] def cTLend_caller (x : TLend_caller) : List PV := [.sl (x.f0.map cTPerm), .sl (x.f1.map cTLend_left), .sl (x.f2.map ciu32), .sl (x.f3.map ciu32), .sl (x.f4.map cTRat)]
@[go_sem] theorem sz_TLend_caller (l : List TLend_caller) : sizes (l.map cTLend_caller) 5 = True := sizes_m (c := cTLend_caller) (n := 5) (fun _ => rfl) l
structure TDiag where
  f0 : Int
  f1 : Int
  f2 : ByteArray
@[go_sem] def cTDiag (x : TDiag) : List PV := [.int .i64 x.f0, .int .i64 x.f1, .str x.f2]
@[go_sem] theorem sz_TDiag (l : List TDiag) : sizes (l.map cTDiag) 3 = True := sizes_m (c := cTDiag) (n := 3) (fun _ => rfl) l
structure TBallcocklaw18_Case where
  f0 : List TPerm
  f1 : List Int
  f2 : List TRat
@[go_sem] def cTBallcocklaw18_Case (x : TBallcocklaw18_Case) : List PV := [.sl (x.f0.map cTPerm), .sl (x.f1.map ciu32), .sl (x.f2.map cTRat)]
@[go_sem] theorem sz_TBallcocklaw18_Case (l : List TBallcocklaw18_Case) : sizes (l.map cTBallcocklaw18_Case) 3 = True := sizes_m (c := cTBallcocklaw18_Case) (n := 3) (fun _ => rfl) l
def eqTRat (x y : TRat) : Bool := decide (x.f0 = y.f0) && decide (x.f1 = y.f1)
theorem eqr_TRat (a0 b0 : Int) (a1 b1 : Int) (w : World) : (do eqGuard .eql 25 (.const undef) (.const undef) (.agg #[.int .i64 a0, .int .i64 a1]) (.agg #[.int .i64 b0, .int .i64 b1]); Op.equal 25 (.agg #[.int .i64 a0, .int .i64 a1]) (.agg #[.int .i64 b0, .int .i64 b1]) : Sem Bool).run Try.prog w = .ok (decide (a0 = b0) && decide (a1 = b1)) w := by
  go_simp
  show Sem.run Try.prog (Op.equalIn 10000 _ _ _) w = _
  go_simp
  try simp only [toL]
  by_cases e0 : a0 = b0 <;> by_cases e1 : a1 = b1 <;> simp [e0, e1]
theorem eqS_TRat (x y : TRat) {K : GV → Prop} {neg : Bool} (h : K (.p (.bool (if neg then !(eqTRat x y) else eqTRat x y)))) : gEqS Try.prog 25 [.p (.int .i64 x.f0), .p (.int .i64 x.f1)] [.p (.int .i64 y.f0), .p (.int .i64 y.f1)] neg K :=
  ⟨_, fun w => eqr_TRat _ _ _ _ w, h⟩
def in64R (r : TRat) : Prop := BallQ.In64 r.f0 ∧ BallQ.In64 r.f1
instance (r : TRat) : Decidable (in64R r) := inferInstanceAs (Decidable (_ ∧ _))
def toR (x : Int × Int × Int) : TRat × Int := (⟨x.1, x.2.1⟩, x.2.2)
noncomputable def m_rat_Right (a0 : TRat) : Option Bool := Option.bind (rq (decide (in64R a0))) fun _ => some (decide (BallQ.Right a0.f0 a0.f1))
noncomputable def m_rat_Add (a0 a1 : TRat) : Option (TRat × Int) := Option.bind (rq (decide (in64R a0 ∧ in64R a1))) fun _ => some (toR (addS a0.f0 a0.f1 a1.f0 a1.f1))
noncomputable def m_rat_Mul (a0 a1 : TRat) : Option (TRat × Int) := Option.bind (rq (decide (in64R a0 ∧ in64R a1))) fun _ => some (toR (mulS a0.f0 a0.f1 a1.f0 a1.f1))
noncomputable def m_rat_Div (a0 : TRat) (a1 : TRat) : Option (TRat × Int) :=
 Option.bind (m_rat_Right a0) fun r1 =>  Option.bind  (ifB (!r1)  (some (true))  (Option.bind (m_rat_Right a1) fun r5 =>  ifB (!r5)  (some (true))  (some (decide (a1.f0 = 0)))) : Option (Bool)) fun v2 =>  ifB v2  (some (((⟨0, 0⟩ : TRat), 2)))  (ifB (decide (a1.f0 < 0))  (Option.bind (m_rat_Mul a0 (⟨IntKind.wrap .i64 (0 - a1.f1), IntKind.wrap .i64 (0 - a1.f0)⟩ : TRat)) fun r10 =>  some ((r10.1, r10.2)))  (Option.bind (m_rat_Mul a0 (⟨a1.f1, a1.f0⟩ : TRat)) fun r11 =>  some ((r11.1, r11.2))))
noncomputable def m_rat_sum (a0 a1 a2 a3 : Int) : Option (Int × Int × Bool) := Option.bind (rq (decide (BallQ.In64 a0 ∧ BallQ.In64 a1 ∧ BallQ.In64 a2 ∧ BallQ.In64 a3 ∧ a0 * a1 + a2 * a3 ≠ 0))) fun _ => some ((((a0 * a1 + a2 * a3).natAbs / 18446744073709551616 : Nat) : Int), (((a0 * a1 + a2 * a3).natAbs % 18446744073709551616 : Nat) : Int), decide ((a0 * a1 + a2 * a3) < 0))
noncomputable def m_rat_minus (a0 : TRat) : Option TRat :=
 some ((⟨IntKind.wrap .i64 (0 - a0.f0), a0.f1⟩ : TRat))
noncomputable def m_rat_Sub (a0 : TRat) (a1 : TRat) : Option (TRat × Int) :=
 Option.bind (m_rat_Right a1) fun r1 =>  ifB (!r1)  (some (((⟨0, 0⟩ : TRat), 2)))  (Option.bind (m_rat_minus a1) fun r3 =>  Option.bind (m_rat_Add a0 r3) fun r4 =>  some ((r4.1, r4.2)))
noncomputable def m_rat_Compare (a0 : TRat) (a1 : TRat) : Option Int :=
 Option.bind (m_rat_Right a0) fun r1 =>  Option.bind  (ifB (!r1)  (some (true))  (Option.bind (m_rat_Right a1) fun r5 =>  ifB (!r5)  (some (true))  (some (eqTRat a0 a1))) : Option (Bool)) fun v2 =>  ifB v2  (some (0))  (Option.bind (m_rat_sum a0.f0 a1.f1 (IntKind.wrap .i64 (0 - a1.f0)) a0.f1) fun r9 =>  ifB r9.2.2  (some (-1))  (some (1)))
noncomputable def m_ref01_New (a0 a1 : Int) : Option (TRat × Int) := Option.bind (rq (decide (BallQ.In64 a0 ∧ BallQ.In64 a1))) fun _ => some (toR (newS a0 a1))
noncomputable def m_slices_IndexFunc_api_Rat_L0 (a0 : List TRat) (a1 : (TRat → Option Bool)) : Int → Option ((Int) ⊕ ((Unit) ⊕ (Int)))
 | v4 =>
 ifB (decide (v4 < (a0.length : Int)))  (Option.bind (gi a0 v4) fun v6 =>  Option.bind (a1 v6) fun r7 =>  ifB r7  (some (.inr (.inr v4)))  (some (.inl (IntKind.wrap .i64 (v4 + 1)))))  (some (.inr (.inl ())))
noncomputable def m_slices_IndexFunc_api_Rat (a0 : List TRat) (a1 : (TRat → Option Bool)) : Option Int :=
 Option.bind (loopO (m_slices_IndexFunc_api_Rat_L0 a0 a1) (0)) fun z => (match z with  | .inl _ =>  (some (-1))  | .inr r => (some r))
noncomputable def m_slices_ContainsFunc_api_Rat (a0 : List TRat) (a1 : (TRat → Option Bool)) : Option Bool :=
 Option.bind (m_slices_IndexFunc_api_Rat a0 a1) fun r1 =>  some (decide (0 ≤ r1))
def m_slices_Clone_api_Rat (l : List TRat) : Option (List TRat) := Option.bind (rq (decide (l.length ≤ 1000000))) fun _ => some l
noncomputable def m_slices_Clone_api_Rat_A : Code := match Try.f99.body with
  | some (.seq _ (.seq (.seq _ r) _)) => r
  | _ => .skip
noncomputable def m_slices_Clone_api_Rat_B : Code := match Try.f99.body with
  | some (.seq _ (.seq (.seq _ _) r)) => r
  | _ => .skip
noncomputable def m_term_nought  : Option TRat :=
 some ((⟨0, 1⟩ : TRat))
noncomputable def m_term_At (a0 : TTerm) (a1 : Int) : Option TRat :=
 ifB (decide (a1 < 0))  (Option.bind (m_term_nought) fun r2 =>  some (r2))  (ifB (decide ((a0.f0.length : Int) ≤ a1))  (Option.bind (m_term_nought) fun r4 =>  some (r4))  (Option.bind (gi a0.f0 a1) fun v5 =>  some (v5)))
noncomputable def m_term_one (a0 : TTerm) (a1 : Int) : Option TRat :=
 ifB (decide (a1 < 0))  (some (a0.f1))  (Option.bind (m_term_At a0 a1) fun r2 =>  some (r2))
noncomputable def m_term_Right_1 (a0 : TRat) : Option Bool :=
 Option.bind (m_rat_Right a0) fun r1 =>  some ((!r1))
noncomputable def m_term_Right (a0 : TTerm) : Option Bool :=
 ifB (decide ((a0.f0.length : Int) ≤ 8))  (Option.bind (m_rat_Right a0.f1) fun r2 =>  ifB r2  (Option.bind (m_slices_ContainsFunc_api_Rat a0.f0 (fun x0 => m_term_Right_1 x0)) fun r4 =>  some ((!r4)))  (some (false)))  (some (false))
noncomputable def m_term_trim_L0 (a0 : TTerm) : Int → Option ((Int) ⊕ ((Int)))
 | v4 =>
 Option.bind  (ifB (decide (0 < v4))  (Option.bind (gi a0.f0 (IntKind.wrap .i64 (v4 - 1))) fun v9 =>  some (decide (v9.f0 = 0)))  (some (false)) : Option (Bool)) fun v6 =>  ifB v6  (some (.inl (IntKind.wrap .i64 (v4 - 1))))  (some (.inr (v4)))
noncomputable def m_term_trim (a0 : TTerm) : Option TTerm :=
 Option.bind (loopO (m_term_trim_L0 a0) ((a0.f0.length : Int))) fun v5 =>  (Option.bind (subL a0.f0 0 v5) fun v13 =>  Option.bind (m_slices_Clone_api_Rat v13) fun r14 =>  some ((⟨r14, a0.f1⟩ : TTerm)))
noncomputable def m_term_Own (a0 : TTerm) : Option TTerm :=
 Option.bind (m_term_Right a0) fun r1 =>  ifB (!r1)  (Option.bind (m_term_nought) fun r3 =>  some ((⟨[], r3⟩ : TTerm)))  (Option.bind (m_term_trim a0) fun r4 =>  some (r4))
noncomputable def m_term_Scale_1 (a0 : Int) (u0 : TTerm) (u1 : TRat) : Option (TRat × Int) :=
 Option.bind (m_term_one u0 a0) fun r1 =>  Option.bind (m_rat_Mul r1 u1) fun r2 =>  some ((r2.1, r2.2))
noncomputable def m_term_Add_1 (a0 : Int) (u0 : TTerm) (u1 : TTerm) : Option (TRat × Int) :=
 Option.bind (m_term_one u0 a0) fun r1 =>  Option.bind (m_term_one u1 a0) fun r2 =>  Option.bind (m_rat_Add r1 r2) fun r3 =>  some ((r3.1, r3.2))
noncomputable def m_term_each_L0 (a0 : Int) (a1 : (Int → Option (TRat × Int))) : (Int × (List TRat) × Int × Int) → Option ((Int × (List TRat) × Int × Int) ⊕ (((List TRat) × Int × Int) ⊕ (TTerm × Int)))
 | (v12, v13, v15, v16) =>
 ifB (decide (v12 < (IntKind.wrap .i64 (a0 + 1))))  (Option.bind (a1 (IntKind.wrap .i64 (v12 - 1))) fun r22 =>  ifB (!decide (r22.2 = 0))  (some (.inr (.inr ((⟨[], (⟨0, 0⟩ : TRat)⟩ : TTerm), r22.2))))  (Option.bind  (ifB (decide (v12 = 0))  (some (v13, r22.1.f0, r22.1.f1))  (Option.bind (rq (decide (v13.length + ([r22.1]).length ≤ 1000000))) fun _ =>  some ((v13 ++ ([r22.1])), v15, v16)) : Option ((List TRat) × Int × Int)) fun z => (match z with  | (v24, v26, v27) =>  (some (.inl (IntKind.wrap .i64 (v12 + 1), v24, v26, v27))))))  (some (.inr (.inl (v13, v15, v16))))
noncomputable def m_term_each (a0 : Int) (a1 : (Int → Option (TRat × Int))) : Option (TTerm × Int) :=
 Option.bind (loopO (m_term_each_L0 a0 a1) ((0, [], 0, 0))) fun z => (match z with  | .inl (v17, v19, v20) =>  (Option.bind (m_term_trim (⟨v17, (⟨v19, v20⟩ : TRat)⟩ : TTerm)) fun r34 =>  some ((r34, 0)))  | .inr r => (some r))
noncomputable def m_term_Add (a0 : TTerm) (a1 : TTerm) : Option (TTerm × Int) :=
 Option.bind (m_term_Right a0) fun r1 =>  Option.bind  (ifB (!r1)  (some (true))  (Option.bind (m_term_Right a1) fun r5 =>  some ((!r5))) : Option (Bool)) fun v2 =>  ifB v2  (some (((⟨[], (⟨0, 0⟩ : TRat)⟩ : TTerm), 2)))  (Option.bind (m_term_each (if (a0.f0.length : Int) < (a1.f0.length : Int) then (a1.f0.length : Int) else (a0.f0.length : Int)) (fun x0 => m_term_Add_1 x0 a0 a1)) fun r8 =>  some ((r8.1, r8.2)))
noncomputable def m_term_Scale (a0 : TTerm) (a1 : TRat) : Option (TTerm × Int) :=
 Option.bind (m_term_Right a0) fun r1 =>  Option.bind  (ifB (!r1)  (some (true))  (Option.bind (m_rat_Right a1) fun r5 =>  some ((!r5))) : Option (Bool)) fun v2 =>  ifB v2  (some (((⟨[], (⟨0, 0⟩ : TRat)⟩ : TTerm), 2)))  (Option.bind (m_term_each (a0.f0.length : Int) (fun x0 => m_term_Scale_1 x0 a0 a1)) fun r8 =>  some ((r8.1, r8.2)))
noncomputable def m_term_Value_L0 (v10 : List TRat) (v1 : List TRat) : (Int × Int × Int) → Option ((Int × Int × Int) ⊕ ((Int × Int) ⊕ (TRat × Int)))
 | (v18, v19, v20) =>
 ifB (decide (v18 < (v10.length : Int)))  (Option.bind (gi v10 v18) fun v24 =>  Option.bind (gi v1 v18) fun v25 =>  Option.bind (m_rat_Mul v24 v25) fun r26 =>  ifB (!decide (r26.2 = 0))  (some (.inr (.inr ((⟨0, 0⟩ : TRat), r26.2))))  (Option.bind (m_rat_Add (⟨v19, v20⟩ : TRat) r26.1) fun r28 =>  ifB (!decide (r28.2 = 0))  (some (.inr (.inr ((⟨0, 0⟩ : TRat), r28.2))))  (some (.inl (IntKind.wrap .i64 (v18 + 1), r28.1.f0, r28.1.f1)))))  (some (.inr (.inl (v19, v20))))
noncomputable def m_term_Value (a0 : TTerm) (a1 : List TRat) : Option (TRat × Int) :=
 Option.bind (subL a1 0 (if 8 < (a1.length : Int) then 8 else (a1.length : Int))) fun v1 =>  Option.bind (m_term_Right a0) fun r2 =>  Option.bind  (ifB (!r2)  (some (true))  (Option.bind (m_term_nought) fun r6 =>  Option.bind (m_term_Right (⟨v1, r6⟩ : TTerm)) fun r7 =>  some ((!r7))) : Option (Bool)) fun v3 =>  ifB v3  (some (((⟨0, 0⟩ : TRat), 2)))  (Option.bind (subL a0.f0 0 (if (v1.length : Int) < (a0.f0.length : Int) then (v1.length : Int) else (a0.f0.length : Int))) fun v10 =>  Option.bind (loopO (m_term_Value_L0 v10 v1) ((0, a0.f1.f0, a0.f1.f1))) fun z => (match z with  | .inl (v21, v22) =>  (some (((⟨v21, v22⟩ : TRat), 0)))  | .inr r => (some r)))
noncomputable def m_slices_IndexFunc_api_Term_L0 (a0 : List TTerm) (a1 : (TTerm → Option Bool)) : Int → Option ((Int) ⊕ ((Unit) ⊕ (Int)))
 | v4 =>
 ifB (decide (v4 < (a0.length : Int)))  (Option.bind (gi a0 v4) fun v6 =>  Option.bind (a1 v6) fun r7 =>  ifB r7  (some (.inr (.inr v4)))  (some (.inl (IntKind.wrap .i64 (v4 + 1)))))  (some (.inr (.inl ())))
noncomputable def m_slices_IndexFunc_api_Term (a0 : List TTerm) (a1 : (TTerm → Option Bool)) : Option Int :=
 Option.bind (loopO (m_slices_IndexFunc_api_Term_L0 a0 a1) (0)) fun z => (match z with  | .inl _ =>  (some (-1))  | .inr r => (some r))
noncomputable def m_slices_ContainsFunc_api_Term (a0 : List TTerm) (a1 : (TTerm → Option Bool)) : Option Bool :=
 Option.bind (m_slices_IndexFunc_api_Term a0 a1) fun r1 =>  some (decide (0 ≤ r1))
noncomputable def m_slices_Index_int_L0 (a0 : List Int) (a1 : Int) : Int → Option ((Int) ⊕ ((Unit) ⊕ (Int)))
 | v4 =>
 ifB (decide (v4 < (a0.length : Int)))  (Option.bind (gi a0 v4) fun v6 =>  ifB (decide (a1 = v6))  (some (.inr (.inr v4)))  (some (.inl (IntKind.wrap .i64 (v4 + 1)))))  (some (.inr (.inl ())))
noncomputable def m_slices_Index_int (a0 : List Int) (a1 : Int) : Option Int :=
 Option.bind (loopO (m_slices_Index_int_L0 a0 a1) (0)) fun z => (match z with  | .inl _ =>  (some (-1))  | .inr r => (some r))
noncomputable def m_slices_Contains_int (a0 : List Int) (a1 : Int) : Option Bool :=
 Option.bind (m_slices_Index_int a0 a1) fun r1 =>  some (decide (0 ≤ r1))
noncomputable def m_gauss_Solve_1 (a0 : TTerm) : Option Bool :=
 Option.bind (m_term_Right a0) fun r1 =>  some ((!r1))
noncomputable def m_gauss_Solve_2 (a0 : TGauss_row) (a1 : TGauss_row) : Option Int :=
 some (IntKind.wrap .i64 (a0.f1 - a1.f1))
noncomputable def m_gauss_system_keep (a0 : TGauss_system) (a1 : TTerm) (a2 : Int) : Option (TTerm × TGauss_system) :=
 ifB a0.f1  (some ((a1, (⟨a0.f0, true⟩ : TGauss_system))))  (some ((a1, (⟨a0.f0, (!decide (a2 = 0))⟩ : TGauss_system))))
theorem len_keep {a0 : TGauss_system} {a1 : TTerm} {a2 : Int} {r : TTerm × TGauss_system} (h : m_gauss_system_keep a0 a1 a2 = some r) : r.2.f0.length = a0.f0.length := by
  unfold m_gauss_system_keep at h
  rcases ib h with ⟨_, h⟩ | ⟨_, h⟩ <;> cases h <;> rfl
noncomputable def m_gauss_system_times (a0 : TGauss_system) (a1 : TTerm) (a2 : TRat) : Option (TTerm × TGauss_system) :=
 Option.bind (m_term_Scale a1 a2) fun r1 =>  Option.bind (m_gauss_system_keep a0 r1.1 r1.2) fun r2 =>  some ((r2.1, r2.2))
theorem len_times {a0 : TGauss_system} {a1 : TTerm} {a2 : TRat} {r : TTerm × TGauss_system} (h : m_gauss_system_times a0 a1 a2 = some r) : r.2.f0.length = a0.f0.length := by
  unfold m_gauss_system_times at h
  obtain ⟨r1, _, h⟩ := bs h
  obtain ⟨r2, h2, h⟩ := bs h
  cases h
  exact len_keep h2
noncomputable def m_gauss_system_take_L0 (a0 : TGauss_system) (a2 : Int) (a1 : Int) (r11 : TTerm × TGauss_system) : (Int × Bool × (List TGauss_row)) → Option ((Int × Bool × (List TGauss_row)) ⊕ ((Bool × (List TGauss_row))))
 | (v21, v22, v23) =>
 ifB (decide (v21 < (a0.f0.length : Int)))  (Option.bind (rq (decide (0 ≤ v21))) fun _ =>  Option.bind (rq (decide (v21 < (v23.length : Int)))) fun _ =>  Option.bind (gi v23 v21) fun v30 =>  Option.bind (m_term_At v30.f0 a2) fun r31 =>  Option.bind  (ifB (decide (v21 = a1))  (some (true))  (ifB (decide (r31.f0 = 0))  (some (true))  (some (v22))) : Option (Bool)) fun v32 =>  ifB v32  (some (.inl (IntKind.wrap .i64 (v21 + 1), v22, v23)))  (Option.bind (m_gauss_system_times (⟨v23, v22⟩ : TGauss_system) r11.1 (⟨IntKind.wrap .i64 (0 - r31.f0), r31.f1⟩ : TRat)) fun r38 =>  Option.bind  (ifB (!r38.2.f1)  (Option.bind (m_term_Add v30.f0 r38.1) fun r44 =>  Option.bind (m_gauss_system_keep r38.2 r44.1 r44.2) fun r45 =>  Option.bind (gi r45.2.f0 v21) fun v47 =>  some (r45.2.f1, (r45.2.f0.set v21.toNat (⟨r45.1, v47.f1⟩ : TGauss_row))))  (some (r38.2.f1, r38.2.f0)) : Option (Bool × (List TGauss_row))) fun z => (match z with  | (v40, v41) =>  (some (.inl (IntKind.wrap .i64 (v21 + 1), v40, v41))))))  (some (.inr ((v22, v23))))
noncomputable def m_gauss_system_take (a0 : TGauss_system) (a1 : Int) (a2 : Int) : Option TGauss_system :=
 Option.bind (rq (decide (0 ≤ a1))) fun _ =>  Option.bind (rq (decide (a1 < (a0.f0.length : Int)))) fun _ =>  Option.bind (gi a0.f0 a1) fun v4 =>  Option.bind (m_term_At v4.f0 a2) fun r5 =>  Option.bind (m_rat_Div (⟨1, 1⟩ : TRat) r5) fun r6 =>  Option.bind  (ifB a0.f1  (some (true))  (some ((!decide (r6.2 = 0)))) : Option (Bool)) fun v7 =>  Option.bind (m_gauss_system_times (⟨a0.f0, v7⟩ : TGauss_system) v4.f0 r6.1) fun r11 =>  Option.bind (gi r11.2.f0 a1) fun v13 =>  Option.bind (loopO (m_gauss_system_take_L0 a0 a2 a1 r11) ((0, r11.2.f1, (r11.2.f0.set a1.toNat (⟨r11.1, a2⟩ : TGauss_row))))) fun z => (match z with  | (v24, v25) =>  (some ((⟨v25, v24⟩ : TGauss_system))))
theorem len_take {a0 : TGauss_system} {a1 a2 : Int} {r : TGauss_system} (h : m_gauss_system_take a0 a1 a2 = some r) : r.f0.length = a0.f0.length := by
  unfold m_gauss_system_take at h
  obtain ⟨_, _, h⟩ := bs h
  obtain ⟨_, _, h⟩ := bs h
  obtain ⟨_, _, h⟩ := bs h
  obtain ⟨_, _, h⟩ := bs h
  obtain ⟨_, _, h⟩ := bs h
  obtain ⟨_, _, h⟩ := bs h
  obtain ⟨r11, h11, h⟩ := bs h
  obtain ⟨_, _, h⟩ := bs h
  obtain ⟨⟨v25, v26⟩, hl, h⟩ := bs h
  cases h
  refine loopO_ind (P := fun a => a.2.2.length = a0.f0.length) (Q := fun x => x.2.length = a0.f0.length) (fun a a1 hb hp => ?_) (fun a x hb hp => ?_) hl ?_
  · obtain ⟨x, y, z⟩ := a
    unfold m_gauss_system_take_L0 at hb
    dsimp only at hp hb
    rcases ib hb with ⟨_, hb⟩ | ⟨_, hb⟩
    · obtain ⟨_, _, hb⟩ := bs hb
      obtain ⟨_, _, hb⟩ := bs hb
      obtain ⟨_, _, hb⟩ := bs hb
      obtain ⟨_, _, hb⟩ := bs hb
      obtain ⟨_, _, hb⟩ := bs hb
      rcases ib hb with ⟨_, hb⟩ | ⟨_, hb⟩
      · cases hb; exact hp
      · obtain ⟨r39, h39, hb⟩ := bs hb
        obtain ⟨⟨w1, w2⟩, hw, hb⟩ := bs hb
        cases hb
        have e39 := len_times h39
        dsimp only at e39 ⊢
        rcases ib hw with ⟨_, hw⟩ | ⟨_, hw⟩
        · obtain ⟨r44, _, hw⟩ := bs hw
          obtain ⟨r45, h45, hw⟩ := bs hw
          obtain ⟨_, _, hw⟩ := bs hw
          cases hw
          rw [List.length_set, len_keep h45, e39, hp]
        · cases hw; rw [e39, hp]
    · cases hb
  · obtain ⟨x', y, z⟩ := a
    unfold m_gauss_system_take_L0 at hb
    dsimp only at hp hb
    rcases ib hb with ⟨_, hb⟩ | ⟨_, hb⟩
    · obtain ⟨_, _, hb⟩ := bs hb
      obtain ⟨_, _, hb⟩ := bs hb
      obtain ⟨_, _, hb⟩ := bs hb
      obtain ⟨_, _, hb⟩ := bs hb
      obtain ⟨_, _, hb⟩ := bs hb
      rcases ib hb with ⟨_, hb⟩ | ⟨_, hb⟩
      · cases hb
      · obtain ⟨r39, h39, hb⟩ := bs hb
        obtain ⟨⟨w1, w2⟩, hw, hb⟩ := bs hb
        cases hb
    · cases hb; exact hp
  · dsimp only
    rw [List.length_set]
    have := len_times h11
    exact this
noncomputable def m_slices_IndexFunc_gauss_row_L0 (a0 : List TGauss_row) (a1 : (TGauss_row → Option Bool)) : Int → Option ((Int) ⊕ ((Unit) ⊕ (Int)))
 | v4 =>
 ifB (decide (v4 < (a0.length : Int)))  (Option.bind (gi a0 v4) fun v6 =>  Option.bind (a1 v6) fun r7 =>  ifB r7  (some (.inr (.inr v4)))  (some (.inl (IntKind.wrap .i64 (v4 + 1)))))  (some (.inr (.inl ())))
noncomputable def m_slices_IndexFunc_gauss_row (a0 : List TGauss_row) (a1 : (TGauss_row → Option Bool)) : Option Int :=
 Option.bind (loopO (m_slices_IndexFunc_gauss_row_L0 a0 a1) (0)) fun z => (match z with  | .inl _ =>  (some (-1))  | .inr r => (some r))
noncomputable def m_gauss_system_solve_1 (a0 : TGauss_row) (u0 : Int) : Option Bool :=
 ifB (decide (a0.f1 = (-1)))  (Option.bind (m_term_At a0.f0 u0) fun r2 =>  some ((!decide (r2.f0 = 0))))  (some (false))
noncomputable def m_gauss_system_solve_L0  : (Int × Bool × (List TGauss_row)) → Option ((Int × Bool × (List TGauss_row)) ⊕ ((Bool × (List TGauss_row))))
 | (v8, v9, v10) =>
 ifB (decide (v8 < 8))  (Option.bind (m_slices_IndexFunc_gauss_row v10 (fun x0 => m_gauss_system_solve_1 x0 v8)) fun r14 =>  Option.bind  (ifB (decide (0 ≤ r14))  (some ((!v9)))  (some (false)) : Option (Bool)) fun v15 =>  Option.bind  (ifB v15  (Option.bind (m_gauss_system_take (⟨v10, v9⟩ : TGauss_system) r14 v8) fun r23 =>  some (r23.f1, r23.f0))  (some (v9, v10)) : Option (Bool × (List TGauss_row))) fun z => (match z with  | (v19, v20) =>  (some (.inl (IntKind.wrap .i64 (v8 + 1), v19, v20)))))  (some (.inr ((v9, v10))))
noncomputable def m_gauss_system_solve (a0 : TGauss_system) : Option TGauss_system :=
 Option.bind (loopO (m_gauss_system_solve_L0) ((0, a0.f1, a0.f0))) fun z => (match z with  | (v11, v12) =>  (some ((⟨v12, v11⟩ : TGauss_system))))
noncomputable def m_slices_insertionSortCmpFunc__gauss_row_L1 (a1 : Int) (a3 : (TGauss_row → TGauss_row → Option Int)) : (Int × (List TGauss_row)) → Option ((Int × (List TGauss_row)) ⊕ (((List TGauss_row))))
 | (v15, v16) =>
 Option.bind  (ifB (decide (a1 < v15))  (Option.bind (rq (decide (0 ≤ v15))) fun _ =>  Option.bind (rq (decide (v15 < (v16.length : Int)))) fun _ =>  Option.bind (gi v16 v15) fun v24 =>  Option.bind (rq (decide (0 ≤ IntKind.wrap .i64 (v15 - 1)))) fun _ =>  Option.bind (rq (decide (IntKind.wrap .i64 (v15 - 1) < (v16.length : Int)))) fun _ =>  Option.bind (gi v16 (IntKind.wrap .i64 (v15 - 1))) fun v27 =>  Option.bind (a3 v24 v27) fun r28 =>  some (decide (r28 < 0)))  (some (false)) : Option (Bool)) fun v18 =>  ifB v18  (Option.bind (rq (decide (0 ≤ IntKind.wrap .i64 (v15 - 1)))) fun _ =>  Option.bind (rq (decide (IntKind.wrap .i64 (v15 - 1) < (v16.length : Int)))) fun _ =>  Option.bind (gi v16 (IntKind.wrap .i64 (v15 - 1))) fun v34 =>  Option.bind (rq (decide (0 ≤ v15))) fun _ =>  Option.bind (rq (decide (v15 < (v16.length : Int)))) fun _ =>  Option.bind (gi v16 v15) fun v37 =>  Option.bind (gi (v16.set v15.toNat v34) (IntKind.wrap .i64 (v15 - 1))) fun v38 =>  some (.inl (IntKind.wrap .i64 (v15 - 1), ((v16.set v15.toNat v34).set ((IntKind.wrap .i64 (v15 - 1)).toNat) v37))))  (some (.inr (v16)))
noncomputable def m_slices_insertionSortCmpFunc__gauss_row_L0 (a2 : Int) (a1 : Int) (a3 : (TGauss_row → TGauss_row → Option Int)) : (Int × (List TGauss_row)) → Option ((Int × (List TGauss_row)) ⊕ (((List TGauss_row))))
 | (v6, v7) =>
 ifB (decide (v6 < a2))  (Option.bind (loopO (m_slices_insertionSortCmpFunc__gauss_row_L1 a1 a3) ((v6, v7))) fun v17 =>  (some (.inl (IntKind.wrap .i64 (v6 + 1), v17))))  (some (.inr (v7)))
noncomputable def m_slices_insertionSortCmpFunc__gauss_row (a0 : List TGauss_row) (a1 : Int) (a2 : Int) (a3 : (TGauss_row → TGauss_row → Option Int)) : Option (List TGauss_row) :=
 Option.bind (loopO (m_slices_insertionSortCmpFunc__gauss_row_L0 a2 a1 a3) ((IntKind.wrap .i64 (a1 + 1), a0))) fun v8 =>  (some (v8))
theorem len_ins {a0 : List TGauss_row} {a1 a2 : Int} {a3 : TGauss_row → TGauss_row → Option Int} {r : List TGauss_row} (h : m_slices_insertionSortCmpFunc__gauss_row a0 a1 a2 a3 = some r) : r.length = a0.length := by
  unfold m_slices_insertionSortCmpFunc__gauss_row at h
  obtain ⟨v, hv, h⟩ := bs h
  cases h
  refine loopO_ind (P := fun a => a.2.length = a0.length) (Q := fun x => x.length = a0.length) (fun a a1 hb hp => ?_) (fun a x hb hp => ?_) hv rfl
  · obtain ⟨x, y⟩ := a
    unfold m_slices_insertionSortCmpFunc__gauss_row_L0 at hb
    dsimp only at hp hb
    rcases ib hb with ⟨_, hb⟩ | ⟨_, hb⟩
    · obtain ⟨w, hw, hb⟩ := bs hb
      cases hb
      refine loopO_ind (P := fun a => a.2.length = a0.length) (Q := fun x => x.length = a0.length) (fun a a1 hb hp => ?_) (fun a x hb hp => ?_) hw hp
      · obtain ⟨x, y⟩ := a
        unfold m_slices_insertionSortCmpFunc__gauss_row_L1 at hb
        dsimp only at hp hb
        obtain ⟨_, _, hb⟩ := bs hb
        rcases ib hb with ⟨_, hb⟩ | ⟨_, hb⟩
        · obtain ⟨_, _, hb⟩ := bs hb
          obtain ⟨_, _, hb⟩ := bs hb
          obtain ⟨_, _, hb⟩ := bs hb
          obtain ⟨_, _, hb⟩ := bs hb
          obtain ⟨_, _, hb⟩ := bs hb
          obtain ⟨_, _, hb⟩ := bs hb
          obtain ⟨_, _, hb⟩ := bs hb
          cases hb
          simpa using hp
        · cases hb
      · obtain ⟨x', y⟩ := a
        unfold m_slices_insertionSortCmpFunc__gauss_row_L1 at hb
        dsimp only at hp hb
        obtain ⟨_, _, hb⟩ := bs hb
        rcases ib hb with ⟨_, hb⟩ | ⟨_, hb⟩
        · obtain ⟨_, _, hb⟩ := bs hb
          obtain ⟨_, _, hb⟩ := bs hb
          obtain ⟨_, _, hb⟩ := bs hb
          obtain ⟨_, _, hb⟩ := bs hb
          obtain ⟨_, _, hb⟩ := bs hb
          obtain ⟨_, _, hb⟩ := bs hb
          obtain ⟨_, _, hb⟩ := bs hb
          cases hb
        · cases hb; exact hp
    · cases hb
  · obtain ⟨x', y⟩ := a
    unfold m_slices_insertionSortCmpFunc__gauss_row_L0 at hb
    dsimp only at hp hb
    rcases ib hb with ⟨_, hb⟩ | ⟨_, hb⟩
    · obtain ⟨w, hw, hb⟩ := bs hb
      cases hb
    · cases hb; exact hp
noncomputable def m_slices_stableCmpFunc__gauss_row_L0 (a1 : Int) (a2 : (TGauss_row → TGauss_row → Option Int)) : (Int × Int × (List TGauss_row)) → Option ((Int × Int × (List TGauss_row)) ⊕ ((Int × (List TGauss_row))))
 | (v8, v9, v10) =>
 ifB (decide (v9 ≤ a1))  (Option.bind (m_slices_insertionSortCmpFunc__gauss_row v10 v8 v9 a2) fun r14 =>  some (.inl (v9, IntKind.wrap .i64 (v9 + 20), r14)))  (some (.inr ((v8, v10))))
noncomputable def m_slices_stableCmpFunc__gauss_row_L2 (v22 : Int) (a1 : Int) : Unit → Option ((Unit) ⊕ ((Unit)))
 | _ =>
 ifB (decide ((IntKind.wrap .i64 (2 * v22)) ≤ a1))  (none)  (some (.inr (())))
noncomputable def m_slices_stableCmpFunc__gauss_row_L1 (a1 : Int) : Int → Option ((Int) ⊕ ((Unit)))
 | v22 =>
 ifB (decide (v22 < a1))  (Option.bind (loopO (m_slices_stableCmpFunc__gauss_row_L2 v22 a1) (())) fun _ =>  (ifB (decide ((IntKind.wrap .i64 (0 + v22)) < a1))  (none)  (some (.inl (IntKind.wrap .i64 (v22 * 2))))))  (some (.inr (())))
noncomputable def m_slices_stableCmpFunc__gauss_row (a0 : List TGauss_row) (a1 : Int) (a2 : (TGauss_row → TGauss_row → Option Int)) : Option (List TGauss_row) :=
 Option.bind (loopO (m_slices_stableCmpFunc__gauss_row_L0 a1 a2) ((0, 20, a0))) fun z => (match z with  | (v11, v12) =>  (Option.bind (m_slices_insertionSortCmpFunc__gauss_row v12 v11 a1 a2) fun r17 =>  Option.bind (loopO (m_slices_stableCmpFunc__gauss_row_L1 a1) (20)) fun _ =>  (some (r17))))
theorem len_stable {a0 : List TGauss_row} {a1 : Int} {a2 : TGauss_row → TGauss_row → Option Int} {r : List TGauss_row} (h : m_slices_stableCmpFunc__gauss_row a0 a1 a2 = some r) : r.length = a0.length := by
  unfold m_slices_stableCmpFunc__gauss_row at h
  obtain ⟨⟨v11, v12⟩, hv, h⟩ := bs h
  obtain ⟨r16, h16, h⟩ := bs h
  obtain ⟨_, _, h⟩ := bs h
  cases h
  rw [len_ins h16]
  refine loopO_ind (P := fun a => a.2.2.length = a0.length) (Q := fun x => x.2.length = a0.length) (fun a a1 hb hp => ?_) (fun a x hb hp => ?_) hv rfl
  · obtain ⟨x, y, z⟩ := a
    unfold m_slices_stableCmpFunc__gauss_row_L0 at hb
    dsimp only at hp hb
    rcases ib hb with ⟨_, hb⟩ | ⟨_, hb⟩
    · obtain ⟨w, hw, hb⟩ := bs hb
      cases hb
      rw [len_ins hw]; exact hp
    · cases hb
  · obtain ⟨x', y, z⟩ := a
    unfold m_slices_stableCmpFunc__gauss_row_L0 at hb
    dsimp only at hp hb
    rcases ib hb with ⟨_, hb⟩ | ⟨_, hb⟩
    · obtain ⟨w, hw, hb⟩ := bs hb
      cases hb
    · cases hb; exact hp
noncomputable def m_slices_SortStableFunc_gauss_row (a0 : List TGauss_row) (a1 : (TGauss_row → TGauss_row → Option Int)) : Option (List TGauss_row) :=
 Option.bind (m_slices_stableCmpFunc__gauss_row a0 (a0.length : Int) a1) fun r1 =>  some (r1)
theorem len_sort {a0 : List TGauss_row} {a1 : TGauss_row → TGauss_row → Option Int} {r : List TGauss_row} (h : m_slices_SortStableFunc_gauss_row a0 a1 = some r) : r.length = a0.length := by
  unfold m_slices_SortStableFunc_gauss_row at h
  obtain ⟨v, hv, h⟩ := bs h
  cases h
  exact len_stable hv
noncomputable def m_gauss_Solve_L0 (a0 : List TTerm) : (Int × (List TGauss_row)) → Option ((Int × (List TGauss_row)) ⊕ (((List TGauss_row))))
 | (v12, v13) =>
 ifB (decide (v12 < (a0.length : Int)))  (Option.bind (gi a0 v12) fun v16 =>  Option.bind (m_term_Own v16) fun r17 =>  Option.bind (rq (decide ((v13 : List TGauss_row).length + ([(⟨r17, -1⟩ : TGauss_row)]).length ≤ 1000000))) fun _ =>  some (.inl (IntKind.wrap .i64 (v12 + 1), (v13 ++ ([(⟨r17, -1⟩ : TGauss_row)])))))  (some (.inr (v13)))
noncomputable def m_gauss_Solve_L1 (r21 : TGauss_system) (r23 : List TGauss_row) : ((List TTerm) × (List Int) × Int) → Option (((List TTerm) × (List Int) × Int) ⊕ (((List TTerm) × (List Int)) ⊕ ((List TTerm) × (List Int) × Int)))
 | (v36, v38, v40) =>
 ifB (decide (v40 < (r21.f0.length : Int)))  (Option.bind (rq (decide (0 ≤ v40))) fun _ =>  Option.bind (rq (decide (v40 < (r21.f0.length : Int)))) fun _ =>  Option.bind (gi r23 v40) fun v49 =>  Option.bind  (ifB (!decide (v49.f1 = (-1)))  (Option.bind (rq (decide (v36.length + ([v49.f0]).length ≤ 1000000))) fun _ =>  Option.bind (rq (decide (v38.length + ([v49.f1]).length ≤ 1000000))) fun _ =>  some (.inl ((v36 ++ ([v49.f0])), (v38 ++ ([v49.f1])))))  (ifB (!decide (v49.f0.f1.f0 = 0))  (Option.bind (some (.inr (.inr ([], [], 1)))) fun y => some (.inr y))  (some (.inl (v36, v38)))) : Option (((List TTerm) × (List Int)) ⊕ (((List TTerm) × (List Int) × Int) ⊕ (((List TTerm) × (List Int)) ⊕ ((List TTerm) × (List Int) × Int))))) fun z => (match z with  | .inl (v50, v52) =>  (some (.inl (v50, v52, IntKind.wrap .i64 (v40 + 1))))  | .inr y => some y))  (some (.inr (.inl (v36, v38))))
noncomputable def m_gauss_Solve (a0 : List TTerm) : Option ((List TTerm) × (List Int) × Int) :=
 Option.bind  (ifB (decide (400 < (a0.length : Int)))  (some (true))  (Option.bind (m_slices_ContainsFunc_api_Term a0 (fun x0 => m_gauss_Solve_1 x0)) fun r4 =>  some (r4)) : Option (Bool)) fun v1 =>  ifB v1  (some (([], [], 2)))  (Option.bind (loopO (m_gauss_Solve_L0 a0) ((0, []))) fun v14 =>  (Option.bind (m_gauss_system_solve (⟨v14, false⟩ : TGauss_system)) fun r21 =>  ifB r21.f1  (some (([], [], 2)))  (Option.bind (m_slices_SortStableFunc_gauss_row r21.f0 (fun x0 x1 => m_gauss_Solve_2 x0 x1)) fun r23 =>  Option.bind (loopO (m_gauss_Solve_L1 r21 r23) (([], [], 0))) fun z => (match z with  | .inl (v41, v43) =>  (some ((v41, v43, 0)))  | .inr r => (some r)))))
noncomputable def m_slices_Repeat_api_Rat (a0 : List TRat) (a1 : Int) : Option (List TRat) := match a0 with
 | [x] => Option.bind (rq (decide (a1 = 8))) fun _ => some (List.replicate 8 x)
 | _ => none
noncomputable def m_slices_IndexFunc_api_Row_L0 (a0 : List TRow) (a1 : (TRow → Option Bool)) : Int → Option ((Int) ⊕ ((Unit) ⊕ (Int)))
 | v4 =>
 ifB (decide (v4 < (a0.length : Int)))  (Option.bind (gi a0 v4) fun v6 =>  Option.bind (a1 v6) fun r7 =>  ifB r7  (some (.inr (.inr v4)))  (some (.inl (IntKind.wrap .i64 (v4 + 1)))))  (some (.inr (.inl ())))
noncomputable def m_slices_IndexFunc_api_Row (a0 : List TRow) (a1 : (TRow → Option Bool)) : Option Int :=
 Option.bind (loopO (m_slices_IndexFunc_api_Row_L0 a0 a1) (0)) fun z => (match z with  | .inl _ =>  (some (-1))  | .inr r => (some r))
noncomputable def m_slices_ContainsFunc_api_Row (a0 : List TRow) (a1 : (TRow → Option Bool)) : Option Bool :=
 Option.bind (m_slices_IndexFunc_api_Row a0 a1) fun r1 =>  some (decide (0 ≤ r1))
noncomputable def m_bound_right (a0 : TRow) : Option Bool :=
 ifB (decide (0 ≤ a0.f0))  (ifB (decide (a0.f0 ≤ 2))  (Option.bind (m_term_Right a0.f1) fun r3 =>  some (r3))  (some (false)))  (some (false))
noncomputable def m_bound_engine_term (a0 : TBound_engine) (a1 : TTerm) (a2 : Int) : Option (TTerm × TBound_engine) :=
 ifB a0.f0  (some ((a1, (⟨true⟩ : TBound_engine))))  (some ((a1, (⟨(!decide (a2 = 0))⟩ : TBound_engine))))
noncomputable def m_bound_engine_rat (a0 : TBound_engine) (a1 : TRat) (a2 : Int) : Option (TRat × TBound_engine) :=
 ifB a0.f0  (some ((a1, (⟨true⟩ : TBound_engine))))  (some ((a1, (⟨(!decide (a2 = 0))⟩ : TBound_engine))))
noncomputable def m_bound_engine_plain_L0 (a2 : List TTerm) (a3 : List Int) : (Int × Bool × (List TRat) × Int × Int) → Option ((Int × Bool × (List TRat) × Int × Int) ⊕ ((Bool × (List TRat) × Int × Int)))
 | (v12, v13, v14, v15, v16) =>
 ifB (decide (v12 < (a2.length : Int)))  (Option.bind (gi a2 v12) fun v22 =>  Option.bind (gi a3 v12) fun v23 =>  Option.bind (m_term_At (⟨v14, (⟨v15, v16⟩ : TRat)⟩ : TTerm) v23) fun r24 =>  Option.bind  (ifB (!decide (r24.f0 = 0))  (some ((!v13)))  (some (false)) : Option (Bool)) fun v25 =>  Option.bind  (ifB v25  (Option.bind (m_term_Scale v22 (⟨IntKind.wrap .i64 (0 - r24.f0), r24.f1⟩ : TRat)) fun r36 =>  Option.bind (m_bound_engine_term (⟨v13⟩ : TBound_engine) r36.1 r36.2) fun r37 =>  Option.bind  (ifB (!r37.2.f0)  (Option.bind (m_term_Add (⟨v14, (⟨v15, v16⟩ : TRat)⟩ : TTerm) r37.1) fun r44 =>  Option.bind (m_bound_engine_term r37.2 r44.1 r44.2) fun r45 =>  some (r45.2.f0, r45.1.f0, r45.1.f1.f0, r45.1.f1.f1))  (some (r37.2.f0, v14, v15, v16)) : Option (Bool × (List TRat) × Int × Int)) fun z => (match z with  | (v38, v39, v40, v41) =>  (some (v38, v39, v40, v41))))  (some (v13, v14, v15, v16)) : Option (Bool × (List TRat) × Int × Int)) fun z => (match z with  | (v29, v30, v31, v32) =>  (some (.inl (IntKind.wrap .i64 (v12 + 1), v29, v30, v31, v32)))))  (some (.inr ((v13, v14, v15, v16))))
noncomputable def m_bound_engine_plain (a0 : TBound_engine) (a1 : TRow) (a2 : List TTerm) (a3 : List Int) : Option (TRow × TBound_engine) :=
 Option.bind (loopO (m_bound_engine_plain_L0 a2 a3) ((0, a0.f0, a1.f1.f0, a1.f1.f1.f0, a1.f1.f1.f1))) fun z => (match z with  | (v17, v18, v19, v20) =>  (some (((⟨a1.f0, (⟨v18, (⟨v19, v20⟩ : TRat)⟩ : TTerm)⟩ : TRow), (⟨v17⟩ : TBound_engine)))))
noncomputable def m_bound_engine_divide (a0 : TBound_engine) (a1 : TRow) (a2 : TRat) : Option (TRow × TBound_engine) :=
 Option.bind  (ifB (decide (a2.f0 < 0))  (some (IntKind.wrap .i64 (0 - a2.f0)))  (some (a2.f0)) : Option (Int)) fun v1 =>  Option.bind (m_rat_Div (⟨1, 1⟩ : TRat) (⟨v1, a2.f1⟩ : TRat)) fun r5 =>  Option.bind (m_bound_engine_rat a0 r5.1 r5.2) fun r6 =>  ifB (!r6.2.f0)  (Option.bind (m_term_Scale a1.f1 r6.1) fun r8 =>  Option.bind (m_bound_engine_term r6.2 r8.1 r8.2) fun r9 =>  some (((⟨a1.f0, r9.1⟩ : TRow), r9.2)))  (some ((a1, r6.2)))
noncomputable def m_bound_engine_drop_L0 (a1 : List TRow) (a2 : Int) : ((List TRow) × Int × Bool × (List TRow) × (List TRow)) → Option (((List TRow) × Int × Bool × (List TRow) × (List TRow)) ⊕ (((List TRow) × Bool × (List TRow) × (List TRow))))
 | (v18, v20, v21, v22, v24) =>
 ifB (decide (v20 < (a1.length : Int)))  (Option.bind (gi a1 v20) fun v34 =>  Option.bind (m_term_At v34.f1 a2) fun r35 =>  Option.bind  (ifB (decide (0 < r35.f0))  (Option.bind (m_bound_engine_divide (⟨v21⟩ : TBound_engine) v34 r35) fun r45 =>  Option.bind (rq (decide (v22.length + ([r45.1]).length ≤ 1000000))) fun _ =>  some (v18, r45.2.f0, (v22 ++ ([r45.1])), v24))  (Option.bind  (ifB (decide (r35.f0 < 0))  (Option.bind (m_bound_engine_divide (⟨v21⟩ : TBound_engine) v34 r35) fun r55 =>  Option.bind (rq (decide (v24.length + ([r55.1]).length ≤ 1000000))) fun _ =>  some (v18, r55.2.f0, (v24 ++ ([r55.1]))))  (Option.bind (rq (decide (v18.length + ([v34]).length ≤ 1000000))) fun _ =>  some ((v18 ++ ([v34])), v21, v24)) : Option ((List TRow) × Bool × (List TRow))) fun z => (match z with  | (v48, v50, v51) =>  (some (v48, v50, v22, v51)))) : Option ((List TRow) × Bool × (List TRow) × (List TRow))) fun z => (match z with  | (v36, v38, v39, v41) =>  (some (.inl (v36, IntKind.wrap .i64 (v20 + 1), v38, v39, v41)))))  (some (.inr ((v18, v21, v22, v24))))
noncomputable def m_bound_engine_drop_L2 (v31 : List TRow) (v85 : TRow) : ((List TRow) × Int × Bool) → Option (((List TRow) × Int × Bool) ⊕ (((List TRow) × Bool)))
 | (v95, v97, v98) =>
 ifB (decide (v97 < (v31.length : Int)))  (Option.bind (gi v31 v97) fun v103 =>  Option.bind (m_term_Add v85.f1 v103.f1) fun r104 =>  Option.bind (m_bound_engine_term (⟨v98⟩ : TBound_engine) r104.1 r104.2) fun r105 =>  Option.bind (rq (decide (v95.length + ([(⟨(if v85.f0 < v103.f0 then v103.f0 else v85.f0), r105.1⟩ : TRow)]).length ≤ 1000000))) fun _ =>  some (.inl ((v95 ++ ([(⟨(if v85.f0 < v103.f0 then v103.f0 else v85.f0), r105.1⟩ : TRow)])), IntKind.wrap .i64 (v97 + 1), r105.2.f0)))  (some (.inr ((v95, v98))))
noncomputable def m_bound_engine_drop_L1 (v29 : List TRow) (v31 : List TRow) : ((List TRow) × Int × Bool) → Option (((List TRow) × Int × Bool) ⊕ (((List TRow) × Bool)))
 | (v77, v79, v80) =>
 ifB (decide (v79 < (v29.length : Int)))  (Option.bind (gi v29 v79) fun v85 =>  Option.bind (loopO (m_bound_engine_drop_L2 v31 v85) ((v77, 0, v80))) fun z => (match z with  | (v99, v101) =>  (some (.inl (v99, IntKind.wrap .i64 (v79 + 1), v101)))))  (some (.inr ((v77, v80))))
noncomputable def m_bound_engine_drop (a0 : TBound_engine) (a1 : List TRow) (a2 : Int) : Option (TBound_stage × (List TRow) × TBound_engine) :=
 Option.bind (loopO (m_bound_engine_drop_L0 a1 a2) (([], 0, a0.f0, [], []))) fun z => (match z with  | (v26, v28, v29, v31) =>  (Option.bind  (ifB v28  (some (true))  (some (decide (400 < (IntKind.wrap .i64 ((v26.length : Int) + (IntKind.wrap .i64 ((v29.length : Int) * (v31.length : Int)))))))) : Option (Bool)) fun v63 =>  ifB v63  (some (((⟨v29, v31⟩ : TBound_stage), [], (⟨true⟩ : TBound_engine))))  (Option.bind (loopO (m_bound_engine_drop_L1 v29 v31) ((v26, 0, v28))) fun z => (match z with  | (v81, v83) =>  (some (((⟨v29, v31⟩ : TBound_stage), v81, (⟨v83⟩ : TBound_engine))))))))
noncomputable def m_bound_engine_edge_L0 (a1 : List TRow) (a2 : List TRat) (a3 : Bool) : (Int × Bool × Int × Int) → Option ((Int × Bool × Int × Int) ⊕ ((Bool × Int × Int) ⊕ (TRat × Bool × TBound_engine × (List TRat))))
 | (v10, v11, v12, v13) =>
 ifB (decide (v10 < (a1.length : Int)))  (Option.bind (gi a1 v10) fun v18 =>  Option.bind (m_term_Value v18.f1 a2) fun r19 =>  Option.bind (m_bound_engine_rat (⟨v11⟩ : TBound_engine) r19.1 r19.2) fun r20 =>  ifB r20.2.f0  (some (.inr (.inr ((⟨v12, v13⟩ : TRat), true, r20.2, a2))))  (Option.bind  (ifB a3  (some (IntKind.wrap .i64 (0 - r20.1.f0)))  (some (r20.1.f0)) : Option (Int)) fun v22 =>  Option.bind (m_rat_Compare (⟨v22, r20.1.f1⟩ : TRat) (⟨v12, v13⟩ : TRat)) fun r26 =>  Option.bind  (ifB (decide (v10 = 0))  (some (true))  (ifB a3  (ifB (decide (0 < r26))  (some (true))  (some (false)))  (some (decide (r26 < 0)))) : Option (Bool)) fun v27 =>  Option.bind  (ifB v27  (some (v22, r20.1.f1))  (some (v12, v13)) : Option (Int × Int)) fun z => (match z with  | (v33, v34) =>  (some (.inl (IntKind.wrap .i64 (v10 + 1), r20.2.f0, v33, v34))))))  (some (.inr (.inl (v11, v12, v13))))
noncomputable def m_bound_engine_edge (a0 : TBound_engine) (a1 : List TRow) (a2 : List TRat) (a3 : Bool) : Option (TRat × Bool × TBound_engine × (List TRat)) :=
 Option.bind (loopO (m_bound_engine_edge_L0 a1 a2 a3) ((0, a0.f0, 0, 0))) fun z => (match z with  | .inl (v14, v15, v16) =>  (some (((⟨v15, v16⟩ : TRat), decide (0 < (a1.length : Int)), (⟨v14⟩ : TBound_engine), a2)))  | .inr r => (some r))
theorem row_edge {a0 : TBound_engine} {a1 : List TRow} {a2 : List TRat} {a3 : Bool} {r : TRat × Bool × TBound_engine × List TRat} (h : m_bound_engine_edge a0 a1 a2 a3 = some r) : r.2.2.2 = a2 := by
  unfold m_bound_engine_edge at h
  obtain ⟨z, hl, h⟩ := bs h
  have key : ∀ y, z = .inr y → y.2.2.2 = a2 := by
    refine loopO_ind (P := fun _ => True) (Q := fun x => ∀ y, x = .inr y → y.2.2.2 = a2) (fun _ _ _ _ => trivial) (fun a x hb _ => ?_) hl trivial
    intro y hy
    subst hy
    obtain ⟨x1, x2, x3, x4⟩ := a
    unfold m_bound_engine_edge_L0 at hb
    dsimp only at hb
    rcases ib hb with ⟨_, hb⟩ | ⟨_, hb⟩
    · obtain ⟨_, _, hb⟩ := bs hb
      obtain ⟨_, _, hb⟩ := bs hb
      obtain ⟨_, _, hb⟩ := bs hb
      rcases ib hb with ⟨_, hb⟩ | ⟨_, hb⟩
      · cases hb; rfl
      · obtain ⟨_, _, hb⟩ := bs hb
        obtain ⟨_, _, hb⟩ := bs hb
        obtain ⟨_, _, hb⟩ := bs hb
        obtain ⟨⟨_, _⟩, _, hb⟩ := bs hb
        cases hb
    · cases hb
  rcases z with ⟨z1, z2, z3⟩ | z
  · cases h; rfl
  · cases h; exact key _ rfl
theorem len_edge {a0 : TBound_engine} {a1 : List TRow} {a2 : List TRat} {a3 : Bool} {r : TRat × Bool × TBound_engine × List TRat} (h : m_bound_engine_edge a0 a1 a2 a3 = some r) : r.2.2.2.length = a2.length := by rw [row_edge h]
noncomputable def m_bound_engine_choose (a0 : TBound_engine) (a1 : TBound_stage) (a2 : List TRat) : Option (TRat × TBound_engine × (List TRat)) :=
 Option.bind (m_bound_engine_edge a0 a1.f0 a2 true) fun r1 =>  Option.bind (m_bound_engine_edge r1.2.2.1 a1.f1 r1.2.2.2 false) fun r3 =>  Option.bind  (ifB r3.2.2.1.f0  (some (true))  (ifB (!r1.2.1)  (some ((!r3.2.1)))  (some (false))) : Option (Bool)) fun v5 =>  ifB v5  (some (((⟨0, 1⟩ : TRat), r3.2.2.1, r3.2.2.2)))  (ifB (!r3.2.1)  (Option.bind (m_rat_Add r1.1 (⟨1, 1⟩ : TRat)) fun r12 =>  Option.bind (m_bound_engine_rat r3.2.2.1 r12.1 r12.2) fun r13 =>  some ((r13.1, r13.2, r3.2.2.2)))  (ifB (!r1.2.1)  (Option.bind (m_rat_Sub r3.1 (⟨1, 1⟩ : TRat)) fun r15 =>  Option.bind (m_bound_engine_rat r3.2.2.1 r15.1 r15.2) fun r16 =>  some ((r16.1, r16.2, r3.2.2.2)))  (Option.bind (m_rat_Add r1.1 r3.1) fun r17 =>  Option.bind (m_bound_engine_rat r3.2.2.1 r17.1 r17.2) fun r18 =>  ifB r18.2.f0  (some ((r18.1, r18.2, r3.2.2.2)))  (Option.bind (m_rat_Mul r18.1 (⟨1, 2⟩ : TRat)) fun r20 =>  Option.bind (m_bound_engine_rat r18.2 r20.1 r20.2) fun r21 =>  some ((r21.1, r21.2, r3.2.2.2))))))
theorem row_choose {a0 : TBound_engine} {a1 : TBound_stage} {a2 : List TRat} {r : TRat × TBound_engine × List TRat} (h : m_bound_engine_choose a0 a1 a2 = some r) : r.2.2 = a2 := by
  unfold m_bound_engine_choose at h
  obtain ⟨r1, h1, h⟩ := bs h
  obtain ⟨r2, h2, h⟩ := bs h
  have e : r2.2.2.2 = a2 := (row_edge h2).trans (row_edge h1)
  obtain ⟨_, _, h⟩ := bs h
  rcases ib h with ⟨_, h⟩ | ⟨_, h⟩
  · cases h; exact e
  rcases ib h with ⟨_, h⟩ | ⟨_, h⟩
  · obtain ⟨_, _, h⟩ := bs h
    obtain ⟨_, _, h⟩ := bs h
    cases h; exact e
  rcases ib h with ⟨_, h⟩ | ⟨_, h⟩
  · obtain ⟨_, _, h⟩ := bs h
    obtain ⟨_, _, h⟩ := bs h
    cases h; exact e
  obtain ⟨_, _, h⟩ := bs h
  obtain ⟨_, _, h⟩ := bs h
  rcases ib h with ⟨_, h⟩ | ⟨_, h⟩
  · cases h; exact e
  obtain ⟨_, _, h⟩ := bs h
  obtain ⟨_, _, h⟩ := bs h
  cases h; exact e
theorem len_choose {a0 : TBound_engine} {a1 : TBound_stage} {a2 : List TRat} {r : TRat × TBound_engine × List TRat} (h : m_bound_engine_choose a0 a1 a2 = some r) : r.2.2.length = a2.length := by rw [row_choose h]
noncomputable def m_bound_engine_witness_L0 (a3 : List Int) (a1 : List TBound_stage) : (Int × Bool × (List TRat)) → Option ((Int × Bool × (List TRat)) ⊕ ((Bool × (List TRat))))
 | (v9, v10, v11) =>
 Option.bind  (ifB (decide (0 ≤ v9))  (some ((!v10)))  (some (false)) : Option (Bool)) fun v14 =>  ifB v14  (Option.bind (m_slices_Contains_int a3 v9) fun r19 =>  Option.bind  (ifB (!r19)  (Option.bind (gi a1 v9) fun v24 =>  Option.bind (m_bound_engine_choose (⟨v10⟩ : TBound_engine) v24 v11) fun r25 =>  Option.bind (rq (decide (0 ≤ v9))) fun _ =>  Option.bind (rq (decide (v9 < (v11.length : Int)))) fun _ =>  Option.bind (gi r25.2.2 v9) fun v29 =>  some (r25.2.1.f0, (r25.2.2.set v9.toNat r25.1)))  (some (v10, v11)) : Option (Bool × (List TRat))) fun z => (match z with  | (v20, v21) =>  (some (.inl (IntKind.wrap .i64 (v9 - 1), v20, v21)))))  (some (.inr ((v10, v11))))
noncomputable def m_bound_engine_witness_L1 (a2 : List TTerm) (a3 : List Int) : (Int × Bool × (List TRat)) → Option ((Int × Bool × (List TRat)) ⊕ ((Bool × (List TRat))))
 | (v39, v40, v41) =>
 ifB (decide (v39 < (a2.length : Int)))  (Option.bind (gi a2 v39) fun v46 =>  ifB v40  (some (.inr ((v40, v41))))  (Option.bind (m_term_Value v46 v41) fun r48 =>  Option.bind (m_bound_engine_rat (⟨v40⟩ : TBound_engine) r48.1 r48.2) fun r49 =>  Option.bind (gi a3 v39) fun v50 =>  Option.bind (rq (decide (0 ≤ v50))) fun _ =>  Option.bind (rq (decide (v50 < (v41.length : Int)))) fun _ =>  Option.bind (gi v41 v50) fun v53 =>  some (.inl (IntKind.wrap .i64 (v39 + 1), r49.2.f0, (v41.set v50.toNat (⟨IntKind.wrap .i64 (0 - r49.1.f0), r49.1.f1⟩ : TRat))))))  (some (.inr ((v40, v41))))
noncomputable def m_bound_engine_witness (a0 : TBound_engine) (a1 : List TBound_stage) (a2 : List TTerm) (a3 : List Int) : Option ((List TRat) × TBound_engine) :=
 Option.bind (m_slices_Repeat_api_Rat ([(⟨0, 1⟩ : TRat)]) 8) fun r1 =>  Option.bind (loopO (m_bound_engine_witness_L0 a3 a1) ((7, a0.f0, r1))) fun z => (match z with  | (v12, v13) =>  (Option.bind (loopO (m_bound_engine_witness_L1 a2 a3) ((0, v12, v13))) fun z => (match z with  | (v43, v44) =>  (some ((v44, (⟨v43⟩ : TBound_engine)))))))
noncomputable def m_bound_engine_solve_1 (a0 : TRow) : Option Bool :=
 ifB (decide (a0.f1.f1.f0 < 0))  (some (true))  (ifB (decide (a0.f0 = 2))  (some (decide (a0.f1.f1.f0 = 0)))  (some (false)))
noncomputable def m_bound_engine_solve_L0 (a1 : List TRow) : ((List TTerm) × Int) → Option (((List TTerm) × Int) ⊕ (((List TTerm))))
 | (v8, v10) =>
 ifB (decide (v10 < (a1.length : Int)))  (Option.bind (gi a1 v10) fun v14 =>  Option.bind  (ifB (decide (v14.f0 = 0))  (Option.bind (rq (decide (v8.length + ([v14.f1]).length ≤ 1000000))) fun _ =>  some ((v8 ++ ([v14.f1]))))  (some (v8)) : Option ((List TTerm))) fun v15 =>  some (.inl (v15, IntKind.wrap .i64 (v10 + 1))))  (some (.inr (v8)))
noncomputable def m_bound_engine_solve_L1 (a1 : List TRow) (r23 : (List TTerm) × (List Int) × Int) : ((List TRow) × Int × Bool) → Option (((List TRow) × Int × Bool) ⊕ (((List TRow) × Bool)))
 | (v34, v36, v37) =>
 ifB (decide (v36 < (a1.length : Int)))  (Option.bind (gi a1 v36) fun v42 =>  Option.bind  (ifB (!decide (v42.f0 = 0))  (Option.bind (m_term_Own v42.f1) fun r48 =>  Option.bind (m_bound_engine_plain (⟨v37⟩ : TBound_engine) (⟨v42.f0, r48⟩ : TRow) r23.1 r23.2.1) fun r49 =>  Option.bind (rq (decide (v34.length + ([r49.1]).length ≤ 1000000))) fun _ =>  some ((v34 ++ ([r49.1])), r49.2.f0))  (some (v34, v37)) : Option ((List TRow) × Bool)) fun z => (match z with  | (v43, v45) =>  (some (.inl (v43, IntKind.wrap .i64 (v36 + 1), v45)))))  (some (.inr ((v34, v37))))
noncomputable def m_bound_engine_solve_L2  : ((List TRow) × (List TBound_stage) × Int × Bool) → Option (((List TRow) × (List TBound_stage) × Int × Bool) ⊕ (((List TRow) × (List TBound_stage) × Bool)))
 | (v65, v66, v68, v69) =>
 Option.bind  (ifB (decide (v68 < 8))  (some ((!v69)))  (some (false)) : Option (Bool)) fun v74 =>  ifB v74  (Option.bind (m_bound_engine_drop (⟨v69⟩ : TBound_engine) v65 v68) fun r79 =>  Option.bind (rq (decide (v66.length + ([r79.1]).length ≤ 1000000))) fun _ =>  some (.inl (r79.2.1, (v66 ++ ([r79.1])), IntKind.wrap .i64 (v68 + 1), r79.2.2.f0)))  (some (.inr ((v65, v66, v69))))
noncomputable def m_bound_engine_solve (a0 : TBound_engine) (a1 : List TRow) : Option ((List TRat) × Int × TBound_engine) :=
 Option.bind (loopO (m_bound_engine_solve_L0 a1) (([], 0))) fun v11 =>  (Option.bind (m_gauss_Solve v11) fun r23 =>  ifB (!decide (r23.2.2 = 0))  (some (([], r23.2.2, a0)))  (Option.bind (loopO (m_bound_engine_solve_L1 a1 r23) (([], 0, a0.f0))) fun z => (match z with  | (v38, v40) =>  (Option.bind (loopO (m_bound_engine_solve_L2) ((v38, [], 0, v40))) fun z => (match z with  | (v70, v71, v73) =>  (ifB v73  (some (([], 2, (⟨v73⟩ : TBound_engine))))  (Option.bind (m_slices_ContainsFunc_api_Row v70 (fun x0 => m_bound_engine_solve_1 x0)) fun r84 =>  ifB r84  (some (([], 1, (⟨v73⟩ : TBound_engine))))  (Option.bind (m_bound_engine_witness (⟨v73⟩ : TBound_engine) v71 r23.1 r23.2.1) fun r86 =>  ifB r86.2.f0  (some (([], 2, r86.2)))  (some ((r86.1, 0, r86.2)))))))))))
noncomputable def m_bound_Solve_1 (a0 : TRow) : Option Bool :=
 Option.bind (m_bound_right a0) fun r1 =>  some ((!r1))
noncomputable def m_bound_Solve (a0 : List TRow) : Option ((List TRat) × Int) :=
 Option.bind  (ifB (decide (400 < (a0.length : Int)))  (some (true))  (Option.bind (m_slices_ContainsFunc_api_Row a0 (fun x0 => m_bound_Solve_1 x0)) fun r4 =>  some (r4)) : Option (Bool)) fun v1 =>  ifB v1  (some (([], 2)))  (Option.bind (m_bound_engine_solve (⟨false⟩ : TBound_engine) a0) fun r7 =>  some ((r7.1, r7.2.1)))
noncomputable def m_bound_Holds_L0 (a0 : List TRow) (a1 : List TRat) : Int → Option ((Int) ⊕ ((Unit) ⊕ (Bool)))
 | v4 =>
 ifB (decide (v4 < (a0.length : Int)))  (Option.bind (gi a0 v4) fun v6 =>  Option.bind (m_term_Value v6.f1 a1) fun r7 =>  Option.bind (m_bound_right v6) fun r8 =>  Option.bind  (ifB (!r8)  (some (true))  (ifB (!decide (r7.2 = 0))  (some (true))  (ifB (decide (r7.1.f0 < 0))  (some (true))  (ifB (decide (v6.f0 = 0))  (ifB (!decide (r7.1.f0 = 0))  (some (true))  (ifB (decide (v6.f0 = 2))  (some (decide (r7.1.f0 = 0)))  (some (false))))  (ifB (decide (v6.f0 = 2))  (some (decide (r7.1.f0 = 0)))  (some (false)))))) : Option (Bool)) fun v9 =>  ifB v9  (some (.inr (.inr false)))  (some (.inl (IntKind.wrap .i64 (v4 + 1)))))  (some (.inr (.inl ())))
noncomputable def m_bound_Holds (a0 : List TRow) (a1 : List TRat) : Option Bool :=
 Option.bind (loopO (m_bound_Holds_L0 a0 a1) (0)) fun z => (match z with  | .inl _ =>  (some (true))  | .inr r => (some r))
noncomputable def m_law04_awake  : Option Bool :=
 Option.bind (m_bound_Solve ([(⟨2, (⟨[(⟨1, 1⟩ : TRat)], (⟨0, 1⟩ : TRat)⟩ : TTerm)⟩ : TRow), (⟨1, (⟨[(⟨-1, 1⟩ : TRat)], (⟨1, 1⟩ : TRat)⟩ : TTerm)⟩ : TRow)])) fun r1 =>  Option.bind (m_bound_Solve ([(⟨2, (⟨[(⟨1, 1⟩ : TRat)], (⟨0, 1⟩ : TRat)⟩ : TTerm)⟩ : TRow), (⟨1, (⟨[(⟨-1, 1⟩ : TRat)], (⟨0, 1⟩ : TRat)⟩ : TTerm)⟩ : TRow)])) fun r2 =>  ifB (decide (r1.2 = 0))  (ifB (decide ((r1.1.length : Int) = 8))  (Option.bind (gi r1.1 0) fun v5 =>  ifB (eqTRat v5 (⟨1, 2⟩ : TRat))  (ifB (decide (r2.2 = 1))  (Option.bind (m_bound_Holds ([(⟨2, (⟨[(⟨1, 1⟩ : TRat)], (⟨0, 1⟩ : TRat)⟩ : TTerm)⟩ : TRow), (⟨1, (⟨[(⟨-1, 1⟩ : TRat)], (⟨1, 1⟩ : TRat)⟩ : TTerm)⟩ : TRow)]) r1.1) fun r8 =>  some (r8))  (some (false)))  (some (false)))  (some (false)))  (some (false))
noncomputable def m_law04_BoundSpan_L0 (v1 : List Bool) : (Int × (List Int)) → Option ((Int × (List Int)) ⊕ (((List Int))))
 | (v12, v13) =>
 ifB (decide (v12 < 2))  (Option.bind (rq (decide (0 ≤ v12))) fun _ =>  Option.bind (rq (decide (v12 < 2))) fun _ =>  Option.bind (gi v1 (v12 : Int)) fun v18 =>  Option.bind  (ifB v18  (Option.bind (rq (decide (v12 < (v13.length : Int)))) fun _ =>  some ((v13.set v12.toNat 2)))  (some (v13)) : Option ((List Int))) fun v19 =>  some (.inl (IntKind.wrap .i64 (v12 + 1), v19)))  (some (.inr (v13)))
noncomputable def m_law04_BoundSpan (a0 : Int) (a1 : Int) (a2 : TS37) : Option Bool :=
 Option.bind (some ([a2.f0, a2.f1] : List Bool)) fun v1 =>  Option.bind (m_law04_awake) fun r3 =>  ifB (!r3)  (some (false))  (Option.bind (some ([1, 1] : List Int)) fun v5 =>  Option.bind (loopO (m_law04_BoundSpan_L0 v1) ((0, v5))) fun v14 =>  (Option.bind (rq (decide (0 ≤ (0 : Int)))) fun _ =>  Option.bind (rq (decide ((0 : Int) < 2))) fun _ =>  Option.bind (gi v14 ((0 : Int) : Int)) fun v28 =>  Option.bind (rq (decide (0 ≤ (1 : Int)))) fun _ =>  Option.bind (rq (decide ((1 : Int) < 2))) fun _ =>  Option.bind (gi v14 ((1 : Int) : Int)) fun v31 =>  Option.bind (m_bound_Solve ([(⟨v28, (⟨[(⟨1, 1⟩ : TRat)], (⟨IntKind.wrap .i64 (0 - (IntKind.wrap .i64 a0)), 1⟩ : TRat)⟩ : TTerm)⟩ : TRow), (⟨v31, (⟨[(⟨-1, 1⟩ : TRat)], (⟨IntKind.wrap .i64 a1, 1⟩ : TRat)⟩ : TTerm)⟩ : TRow)])) fun r32 =>  Option.bind  (ifB (decide (a0 < a1))  (some (true))  (ifB (decide (a0 = a1))  (Option.bind (gi v1 ((0 : Int) : Int)) fun v37 =>  ifB (!v37)  (Option.bind (gi v1 ((1 : Int) : Int)) fun v39 =>  some ((!v39)))  (some (false)))  (some (false))) : Option (Bool)) fun v33 =>  ifB (!v33)  (some (decide (r32.2 = 1)))  (Option.bind (m_ref01_New (IntKind.wrap .i64 ((IntKind.wrap .i64 a0) + (IntKind.wrap .i64 a1))) 2) fun r42 =>  ifB (decide (r32.2 = 0))  (ifB (decide ((r32.1.length : Int) = 8))  (Option.bind (gi r32.1 0) fun v45 =>  some (eqTRat v45 r42.1))  (some (false)))  (some (false)))))
structure Stays (a b : TLend_caller) : Prop where
  f0 : b.f0 = a.f0
  f1 : b.f1 = a.f1
  f2 : b.f2 = a.f2
  f4 : b.f4 = a.f4
  len : b.f3.length = a.f3.length
end Go.E
end
