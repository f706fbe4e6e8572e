import Derived.Test.YthgohaidfaldnaaMF
set_option linter.all false
set_option maxRecDepth 100000
namespace Go.E
open Go Go.Proofs Go.Eng
variable {TB : Nat → Option Obj}
structure TState where
  f0 : ByteArray
  f1 : Bool
@[go_sem] def cTState (x : TState) : List PV := [.str x.f0, .bool x.f1]
@[go_sem] theorem sz_TState (l : List TState) : sizes (l.map cTState) 2 = True := sizes_m (c := cTState) (n := 2) (fun _ => rfl) l
structure TOut where
  f0 : ByteArray
  f1 : Int
@[go_sem] def cTOut (x : TOut) : List PV := [.str x.f0, .int .i64 x.f1]
@[go_sem] theorem sz_TOut (l : List TOut) : sizes (l.map cTOut) 2 = True := sizes_m (c := cTOut) (n := 2) (fun _ => rfl) l
structure TMove where
  f0 : ByteArray
  f1 : Int
  f2 : List TOut
@[go_sem] def cTMove (x : TMove) : List PV := [.str x.f0, .int .i64 x.f1, .sl (x.f2.map cTOut)]
@[go_sem] theorem sz_TMove (l : List TMove) : sizes (l.map cTMove) 3 = True := sizes_m (c := cTMove) (n := 3) (fun _ => rfl) l
structure TProto where
  f0 : ByteArray
  f1 : List TState
  f2 : List TMove
@[go_sem] def cTProto (x : TProto) : List PV := [.str x.f0, .sl (x.f1.map cTState), .sl (x.f2.map cTMove)]
@[go_sem] theorem sz_TProto (l : List TProto) : sizes (l.map cTProto) 3 = True := sizes_m (c := cTProto) (n := 3) (fun _ => rfl) l
structure TAuto_Auto where
  f0 : TProto
@[go_sem] def cTAuto_Auto (x : TAuto_Auto) : List PV := [.str x.f0.f0, .sl (x.f0.f1.map cTState), .sl (x.f0.f2.map cTMove)]
@[go_sem] theorem sz_TAuto_Auto (l : List TAuto_Auto) : sizes (l.map cTAuto_Auto) 3 = True := sizes_m (c := cTAuto_Auto) (n := 3) (fun _ => rfl) l
def eqTOut (x y : TOut) : Bool := decide (x.f0 = y.f0) && decide (x.f1 = y.f1)
theorem eqr_TOut (a0 b0 : ByteArray) (a1 b1 : Int) (w : World) : (do eqGuard .eql 42 (.const undef) (.const undef) (.agg #[.string a0, .int .i64 a1]) (.agg #[.string b0, .int .i64 b1]); Op.equal 42 (.agg #[.string a0, .int .i64 a1]) (.agg #[.string b0, .int .i64 b1]) : Sem Bool).run Try.prog w = .ok (decide (a0 = b0) && decide (a1 = b1)) w := by
  go_simp
  show Sem.run Try.prog (Op.equalIn 10000 _ _ _) w = _
  go_simp
  simp only [toL]
  by_cases e0 : a0 = b0 <;> by_cases e1 : a1 = b1 <;> simp [e0, e1]
theorem eqS_TOut (x y : TOut) {K : GV → Prop} {neg : Bool} (h : K (.p (.bool (if neg then !(eqTOut x y) else eqTOut x y)))) : gEqS Try.prog 42 [.p (.str x.f0), .p (.int .i64 x.f1)] [.p (.str y.f0), .p (.int .i64 y.f1)] neg K :=
  ⟨_, fun w => eqr_TOut _ _ _ _ w, h⟩
def eqTState (x y : TState) : Bool := decide (x.f0 = y.f0) && (x.f1 == y.f1)
theorem eqr_TState (a0 b0 : ByteArray) (a1 b1 : Bool) (w : World) : (do eqGuard .eql 62 (.const undef) (.const undef) (.agg #[.string a0, .bool a1]) (.agg #[.string b0, .bool b1]); Op.equal 62 (.agg #[.string a0, .bool a1]) (.agg #[.string b0, .bool b1]) : Sem Bool).run Try.prog w = .ok (decide (a0 = b0) && (a1 == b1)) w := by
  go_simp
  show Sem.run Try.prog (Op.equalIn 10000 _ _ _) w = _
  go_simp
  simp only [toL]
  by_cases e0 : a0 = b0 <;> by_cases e1 : a1 = b1 <;> simp [e0, e1]
theorem eqS_TState (x y : TState) {K : GV → Prop} {neg : Bool} (h : K (.p (.bool (if neg then !(eqTState x y) else eqTState x y)))) : gEqS Try.prog 62 [.p (.str x.f0), .p (.bool x.f1)] [.p (.str y.f0), .p (.bool y.f1)] neg K :=
  ⟨_, fun w => eqr_TState _ _ _ _ w, h⟩
noncomputable def m_auto_finals_L0 (a0 : TProto) : (Int × Int) → Option ((Int × Int) ⊕ ((Int)))
 | (v6, v7) =>
 ifB (decide (v7 < (a0.f1.length : Int)))  (Option.bind (gi a0.f1 v7) fun v10 =>  Option.bind  (ifB v10.f1  (Option.bind (rq (decide (0 ≤ v7))) fun _ =>  some (orI .u32 v6 (shlI .u32 1 v7)))  (some (v6)) : Option (Int)) fun v11 =>  some (.inl (v11, IntKind.wrap .i64 (v7 + 1))))  (some (.inr (v6)))
noncomputable def m_auto_finals (a0 : TProto) : Option Int :=
 Option.bind (loopO (m_auto_finals_L0 a0) ((0, 0))) fun v8 =>  (some (v8))
noncomputable def m_auto_states_1 (a0 : Int) (u0 : TProto) : Option ByteArray :=
 Option.bind (gi u0.f1 a0) fun v1 =>  some (v1.f0)
noncomputable def m_auto_twice_L1 (v4 : Int) (a1 : (Int → Option ByteArray)) : Int → Option ((Int) ⊕ ((Unit) ⊕ (Int)))
 | v9 =>
 ifB (decide (v9 < v4))  (Option.bind (a1 v9) fun r11 =>  Option.bind (a1 v4) fun r12 =>  ifB (decide (r11 = r12))  (some (.inr (.inr v4)))  (some (.inl (IntKind.wrap .i64 (v9 + 1)))))  (some (.inr (.inl ())))
noncomputable def m_auto_twice_L0 (a0 : Int) (a1 : (Int → Option ByteArray)) : Int → Option ((Int) ⊕ ((Unit) ⊕ (Int)))
 | v4 =>
 ifB (decide (v4 < a0))  (Option.bind (loopO (m_auto_twice_L1 v4 a1) (0)) fun z => (match z with  | .inl _ =>  (some (.inl (IntKind.wrap .i64 (v4 + 1))))  | .inr r => (some (.inr (.inr r)))))  (some (.inr (.inl ())))
noncomputable def m_auto_twice (a0 : Int) (a1 : (Int → Option ByteArray)) : Option Int :=
 Option.bind (loopO (m_auto_twice_L0 a0 a1) (0)) fun z => (match z with  | .inl _ =>  (some (-1))  | .inr r => (some r))
noncomputable def m_auto_states (a0 : TProto) : Option Int :=
 ifB (decide ((a0.f1.length : Int) < 1))  (some (0))  (ifB (decide (16 < (a0.f1.length : Int)))  (some (0))  (Option.bind (m_auto_twice (a0.f1.length : Int) (fun x0 => m_auto_states_1 x0 a0)) fun r3 =>  some (r3)))
noncomputable def m_auto_ends_L2 (v24 : TMove) : (Int × Bool × Int) → Option ((Int × Bool × Int) ⊕ ((Int × Bool)))
 | (v32, v33, v34) =>
 ifB (decide (v34 < (v24.f2.length : Int)))  (Option.bind (gi v24.f2 v34) fun v38 =>  Option.bind (rq (decide (0 ≤ v38.f1))) fun _ =>  Option.bind  (ifB (decide ((andI .u32 (shrI .u32 v32 v38.f1) 1) = 1))  (Option.bind (rq (decide (0 ≤ v24.f1))) fun _ =>  some (decide ((andI .u32 (shrI .u32 v32 v24.f1) 1) = 0)))  (some (false)) : Option (Bool)) fun v40 =>  Option.bind  (ifB v40  (Option.bind (rq (decide (0 ≤ v24.f1))) fun _ =>  some (orI .u32 v32 (shlI .u32 1 v24.f1), true))  (some (v32, v33)) : Option (Int × Bool)) fun z => (match z with  | (v45, v46) =>  (some (.inl (v45, v46, IntKind.wrap .i64 (v34 + 1))))))  (some (.inr ((v32, v33))))
noncomputable def m_auto_ends_L1 (a0 : TProto) : (Int × Bool × Int) → Option ((Int × Bool × Int) ⊕ ((Int × Bool)))
 | (v18, v19, v20) =>
 ifB (decide (v20 < (a0.f2.length : Int)))  (Option.bind (gi a0.f2 v20) fun v24 =>  Option.bind (loopO (m_auto_ends_L2 v24) ((v18, v19, 0))) fun z => (match z with  | (v35, v36) =>  (some (.inl (v35, v36, IntKind.wrap .i64 (v20 + 1))))))  (some (.inr ((v18, v19))))
noncomputable def m_auto_ends_L0 (a0 : TProto) : (Int × Bool) → Option ((Int × Bool) ⊕ ((Int)))
 | (v7, v8) =>
 ifB v8  (Option.bind (loopO (m_auto_ends_L1 a0) ((v7, false, 0))) fun z => (match z with  | (v21, v22) =>  (some (.inl (v21, v22)))))  (some (.inr (v7)))
noncomputable def m_auto_ends (a0 : TProto) : Option Int :=
 Option.bind (m_auto_finals a0) fun r1 =>  Option.bind (loopO (m_auto_ends_L0 a0) ((r1, true))) fun v9 =>  (some (v9))
noncomputable def m_slices_IndexFunc_api_Out_L0 (a0 : List TOut) (a1 : (TOut → Option Bool)) : Int → Option ((Int) ⊕ ((Unit) ⊕ (Int)))
 | v4 =>
 ifB (decide (v4 < (a0.length : Int)))  (Option.bind (gi a0 v4) fun v6 =>  Option.bind (a1 v6) fun r7 =>  ifB r7  (some (.inr (.inr v4)))  (some (.inl (IntKind.wrap .i64 (v4 + 1)))))  (some (.inr (.inl ())))
noncomputable def m_slices_IndexFunc_api_Out (a0 : List TOut) (a1 : (TOut → Option Bool)) : Option Int :=
 Option.bind (loopO (m_slices_IndexFunc_api_Out_L0 a0 a1) (0)) fun z => (match z with  | .inl _ =>  (some (-1))  | .inr r => (some r))
noncomputable def m_slices_ContainsFunc_api_Out (a0 : List TOut) (a1 : (TOut → Option Bool)) : Option Bool :=
 Option.bind (m_slices_IndexFunc_api_Out a0 a1) fun r1 =>  some (decide (0 ≤ r1))
noncomputable def m_slices_IndexFunc_api_Move_L0 (a0 : List TMove) (a1 : (TMove → Option Bool)) : Int → Option ((Int) ⊕ ((Unit) ⊕ (Int)))
 | v4 =>
 ifB (decide (v4 < (a0.length : Int)))  (Option.bind (gi a0 v4) fun v6 =>  Option.bind (a1 v6) fun r7 =>  ifB r7  (some (.inr (.inr v4)))  (some (.inl (IntKind.wrap .i64 (v4 + 1)))))  (some (.inr (.inl ())))
noncomputable def m_slices_IndexFunc_api_Move (a0 : List TMove) (a1 : (TMove → Option Bool)) : Option Int :=
 Option.bind (loopO (m_slices_IndexFunc_api_Move_L0 a0 a1) (0)) fun z => (match z with  | .inl _ =>  (some (-1))  | .inr r => (some r))
noncomputable def m_slices_ContainsFunc_api_Move (a0 : List TMove) (a1 : (TMove → Option Bool)) : Option Bool :=
 Option.bind (m_slices_IndexFunc_api_Move a0 a1) fun r1 =>  some (decide (0 ≤ r1))
noncomputable def m_slices_IndexFunc_api_State_L0 (a0 : List TState) (a1 : (TState → Option Bool)) : Int → Option ((Int) ⊕ ((Unit) ⊕ (Int)))
 | v4 =>
 ifB (decide (v4 < (a0.length : Int)))  (Option.bind (gi a0 v4) fun v6 =>  Option.bind (a1 v6) fun r7 =>  ifB r7  (some (.inr (.inr v4)))  (some (.inl (IntKind.wrap .i64 (v4 + 1)))))  (some (.inr (.inl ())))
noncomputable def m_slices_IndexFunc_api_State (a0 : List TState) (a1 : (TState → Option Bool)) : Option Int :=
 Option.bind (loopO (m_slices_IndexFunc_api_State_L0 a0 a1) (0)) fun z => (match z with  | .inl _ =>  (some (-1))  | .inr r => (some r))
noncomputable def m_slices_Index_string_L0 (a0 : List ByteArray) (a1 : ByteArray) : Int → Option ((Int) ⊕ ((Unit) ⊕ (Int)))
 | v4 =>
 ifB (decide (v4 < (a0.length : Int)))  (Option.bind (gi a0 v4) fun v6 =>  ifB (decide (a1 = v6))  (some (.inr (.inr v4)))  (some (.inl (IntKind.wrap .i64 (v4 + 1)))))  (some (.inr (.inl ())))
noncomputable def m_slices_Index_string (a0 : List ByteArray) (a1 : ByteArray) : Option Int :=
 Option.bind (loopO (m_slices_Index_string_L0 a0 a1) (0)) fun z => (match z with  | .inl _ =>  (some (-1))  | .inr r => (some r))
noncomputable def m_slices_Contains_string (a0 : List ByteArray) (a1 : ByteArray) : Option Bool :=
 Option.bind (m_slices_Index_string a0 a1) fun r1 =>  some (decide (0 ≤ r1))
noncomputable def m_auto_move_1 (a0 : Int) (u0 : TProto) : Option Bool :=
 ifB (decide (0 ≤ a0))  (some (decide (a0 < (u0.f1.length : Int))))  (some (false))
noncomputable def m_auto_once_1 (a0 : TMove) (u0 : TMove) : Option Bool :=
 ifB (decide (a0.f0 = u0.f0))  (some (decide (a0.f1 = u0.f1)))  (some (false))
noncomputable def m_auto_once_2 (a0 : Int) (u0 : TMove) : Option ByteArray :=
 Option.bind (gi u0.f2 a0) fun v1 =>  some (v1.f0)
noncomputable def m_auto_once (a0 : TProto) (a1 : Int) : Option Bool :=
 Option.bind (gi a0.f2 a1) fun v1 =>  Option.bind (subL a0.f2 0 a1) fun v2 =>  Option.bind (m_slices_ContainsFunc_api_Move v2 (fun x0 => m_auto_once_1 x0 v1)) fun r3 =>  ifB (!r3)  (Option.bind (m_auto_twice (v1.f2.length : Int) (fun x0 => m_auto_once_2 x0 v1)) fun r5 =>  some (decide (r5 < 0)))  (some (false))
noncomputable def m_ref09_in (a0 : TProto) (a1 : Int) : Option Bool :=
 ifB (decide (0 ≤ a1))  (some (decide (a1 < (a0.f1.length : Int))))  (some (false))
noncomputable def m_ref09_has_L0 (a0 : List Int) (a1 : Int) : Int → Option ((Int) ⊕ ((Unit) ⊕ (Bool)))
 | v4 =>
 ifB (decide (v4 < (a0.length : Int)))  (Option.bind (gi a0 v4) fun v6 =>  ifB (decide (v6 = a1))  (some (.inr (.inr true)))  (some (.inl (IntKind.wrap .i64 (v4 + 1)))))  (some (.inr (.inl ())))
noncomputable def m_ref09_has (a0 : List Int) (a1 : Int) : Option Bool :=
 Option.bind (loopO (m_ref09_has_L0 a0 a1) (0)) fun z => (match z with  | .inl _ =>  (some (false))  | .inr r => (some r))
noncomputable def m_ref09_fit_L0 (a1 : TMove) (a0 : TProto) : Int → Option ((Int) ⊕ ((Unit) ⊕ (Bool)))
 | v4 =>
 ifB (decide (v4 < (a1.f2.length : Int)))  (Option.bind (gi a1.f2 v4) fun v6 =>  Option.bind (m_ref09_in a0 v6.f1) fun r7 =>  ifB (!r7)  (some (.inr (.inr false)))  (some (.inl (IntKind.wrap .i64 (v4 + 1)))))  (some (.inr (.inl ())))
noncomputable def m_ref09_fit (a0 : TProto) (a1 : TMove) : Option Bool :=
 Option.bind (loopO (m_ref09_fit_L0 a1 a0) (0)) fun z => (match z with  | .inl _ =>  (Option.bind (m_ref09_in a0 a1.f1) fun r10 =>  ifB r10  (some (decide (0 < (a1.f2.length : Int))))  (some (false)))  | .inr r => (some r))
noncomputable def m_ref09_again_L0 (a1 : Int) (a0 : TProto) (v1 : TMove) : Int → Option ((Int) ⊕ ((Unit) ⊕ (Bool)))
 | v5 =>
 ifB (decide (v5 < a1))  (Option.bind (gi a0.f2 v5) fun v7 =>  Option.bind  (ifB (decide (v7.f0 = v1.f0))  (some (decide (v7.f1 = v1.f1)))  (some (false)) : Option (Bool)) fun v8 =>  ifB v8  (some (.inr (.inr true)))  (some (.inl (IntKind.wrap .i64 (v5 + 1)))))  (some (.inr (.inl ())))
noncomputable def m_ref09_again_L2 (v17 : Int) (v1 : TMove) : Int → Option ((Int) ⊕ ((Unit) ⊕ (Bool)))
 | v22 =>
 ifB (decide (v22 < v17))  (Option.bind (gi v1.f2 v17) fun v24 =>  Option.bind (gi v1.f2 v22) fun v25 =>  ifB (decide (v24.f0 = v25.f0))  (some (.inr (.inr true)))  (some (.inl (IntKind.wrap .i64 (v22 + 1)))))  (some (.inr (.inl ())))
noncomputable def m_ref09_again_L1 (v1 : TMove) : Int → Option ((Int) ⊕ ((Unit) ⊕ (Bool)))
 | v17 =>
 ifB (decide (v17 < (v1.f2.length : Int)))  (Option.bind (loopO (m_ref09_again_L2 v17 v1) (0)) fun z => (match z with  | .inl _ =>  (some (.inl (IntKind.wrap .i64 (v17 + 1))))  | .inr r => (some (.inr (.inr r)))))  (some (.inr (.inl ())))
noncomputable def m_ref09_again (a0 : TProto) (a1 : Int) : Option Bool :=
 Option.bind (gi a0.f2 a1) fun v1 =>  Option.bind (loopO (m_ref09_again_L0 a1 a0 v1) (0)) fun z => (match z with  | .inl _ =>  (Option.bind (loopO (m_ref09_again_L1 v1) (0)) fun z => (match z with  | .inl _ =>  (some (false))  | .inr r => (some r)))  | .inr r => (some r))
noncomputable def m_ref09_Small_L0 (a0 : TProto) : (Int × Int) → Option ((Int × Int) ⊕ ((Int)))
 | (v6, v7) =>
 Option.bind  (ifB (decide (v7 < (a0.f2.length : Int)))  (some (decide (v6 ≤ 80)))  (some (false)) : Option (Bool)) fun v9 =>  ifB v9  (Option.bind (gi a0.f2 v7) fun v14 =>  some (.inl (IntKind.wrap .i64 (v6 + (v14.f2.length : Int)), IntKind.wrap .i64 (v7 + 1))))  (some (.inr (v6)))
noncomputable def m_ref09_Small (a0 : TProto) : Option Bool :=
 Option.bind (loopO (m_ref09_Small_L0 a0) ((IntKind.wrap .i64 ((a0.f1.length : Int) + (a0.f2.length : Int)), 0))) fun v8 =>  (some (decide (v8 ≤ 80)))
noncomputable def m_ref09_Same_L0 (a0 : List TOut) (a1 : List TOut) : Int → Option ((Int) ⊕ ((Unit) ⊕ (Bool)))
 | v5 =>
 ifB (decide (v5 < (a0.length : Int)))  (Option.bind (gi a0 v5) fun v7 =>  Option.bind (gi a1 v5) fun v8 =>  ifB (!(eqTOut v7 v8))  (some (.inr (.inr false)))  (some (.inl (IntKind.wrap .i64 (v5 + 1)))))  (some (.inr (.inl ())))
noncomputable def m_ref09_Same (a0 : List TOut) (a1 : List TOut) : Option Bool :=
 ifB (!decide ((a0.length : Int) = (a1.length : Int)))  (some (false))  (Option.bind (loopO (m_ref09_Same_L0 a0 a1) (0)) fun z => (match z with  | .inl _ =>  (some (true))  | .inr r => (some r)))
noncomputable def m_ref09_Like_L0 (a0 : TProto) (a1 : TProto) : Int → Option ((Int) ⊕ ((Unit) ⊕ (Bool)))
 | v10 =>
 ifB (decide (v10 < (a0.f1.length : Int)))  (Option.bind (gi a0.f1 v10) fun v12 =>  Option.bind (gi a1.f1 v10) fun v13 =>  ifB (!(eqTState v12 v13))  (some (.inr (.inr false)))  (some (.inl (IntKind.wrap .i64 (v10 + 1)))))  (some (.inr (.inl ())))
noncomputable def m_ref09_Like_L1 (a0 : TProto) (a1 : TProto) : Int → Option ((Int) ⊕ ((Unit) ⊕ (Bool)))
 | v19 =>
 ifB (decide (v19 < (a0.f2.length : Int)))  (Option.bind (gi a0.f2 v19) fun v21 =>  Option.bind (gi a1.f2 v19) fun v22 =>  Option.bind  (ifB (!decide (v21.f0 = v22.f0))  (some (true))  (ifB (!decide (v21.f1 = v22.f1))  (some (true))  (Option.bind (m_ref09_Same v21.f2 v22.f2) fun r27 =>  some ((!r27)))) : Option (Bool)) fun v23 =>  ifB v23  (some (.inr (.inr false)))  (some (.inl (IntKind.wrap .i64 (v19 + 1)))))  (some (.inr (.inl ())))
noncomputable def m_ref09_Like (a0 : TProto) (a1 : TProto) : Option Bool :=
 Option.bind  (ifB (!decide (a0.f0 = a1.f0))  (some (true))  (ifB (!decide ((a0.f1.length : Int) = (a1.f1.length : Int)))  (some (true))  (some ((!decide ((a0.f2.length : Int) = (a1.f2.length : Int)))))) : Option (Bool)) fun v1 =>  ifB v1  (some (false))  (Option.bind (loopO (m_ref09_Like_L0 a0 a1) (0)) fun z => (match z with  | .inl _ =>  (Option.bind (loopO (m_ref09_Like_L1 a0 a1) (0)) fun z => (match z with  | .inl _ =>  (some (true))  | .inr r => (some r)))  | .inr r => (some r)))
noncomputable def m_ref09_Texts_L0 (a0 : List ByteArray) (a1 : List ByteArray) : Int → Option ((Int) ⊕ ((Unit) ⊕ (Bool)))
 | v5 =>
 ifB (decide (v5 < (a0.length : Int)))  (Option.bind (gi a0 v5) fun v7 =>  Option.bind (gi a1 v5) fun v8 =>  ifB (!decide (v7 = v8))  (some (.inr (.inr false)))  (some (.inl (IntKind.wrap .i64 (v5 + 1)))))  (some (.inr (.inl ())))
noncomputable def m_ref09_Texts (a0 : List ByteArray) (a1 : List ByteArray) : Option Bool :=
 ifB (!decide ((a0.length : Int) = (a1.length : Int)))  (some (false))  (Option.bind (loopO (m_ref09_Texts_L0 a0 a1) (0)) fun z => (match z with  | .inl _ =>  (some (true))  | .inr r => (some r)))
noncomputable def m_ref09_Bit (a0 : Int) (a1 : Int) : Option Bool :=
 Option.bind (rq (decide (0 ≤ a1))) fun _ =>  some (decide ((andI .u32 (shrI .u32 a0 a1) 1) = 1))
noncomputable def m_ref09_Outs_L0 (a0 : TProto) (a1 : Int) (a2 : ByteArray) : Int → Option ((Int) ⊕ ((Unit) ⊕ ((List TOut))))
 | v4 =>
 ifB (decide (v4 < (a0.f2.length : Int)))  (Option.bind (gi a0.f2 v4) fun v6 =>  Option.bind  (ifB (decide (v6.f1 = a1))  (some (decide (v6.f0 = a2)))  (some (false)) : Option (Bool)) fun v7 =>  ifB v7  (some (.inr (.inr (v6.f2))))  (some (.inl (IntKind.wrap .i64 (v4 + 1)))))  (some (.inr (.inl ())))
noncomputable def m_ref09_Outs (a0 : TProto) (a1 : Int) (a2 : ByteArray) : Option (List TOut) :=
 Option.bind (loopO (m_ref09_Outs_L0 a0 a1 a2) (0)) fun z => (match z with  | .inl _ =>  (some ([]))  | .inr r => (some r))
noncomputable def m_ref09_Set_L1 (r10 : List TOut) (v7 : Int) : (Bool × Int) → Option ((Bool × Int) ⊕ ((Bool)))
 | (v16, v17) =>
 ifB (decide (v17 < (r10.length : Int)))  (Option.bind  (ifB v16  (Option.bind (gi r10 v17) fun v23 =>  some (decide (v23.f1 = v7)))  (some (false)) : Option (Bool)) fun v20 =>  some (.inl (v20, IntKind.wrap .i64 (v17 + 1))))  (some (.inr (v16)))
noncomputable def m_ref09_Set_L0 (a0 : TProto) (a2 : ByteArray) (a1 : Int) : (Int × Int) → Option ((Int × Int) ⊕ ((Int)))
 | (v6, v7) =>
 ifB (decide (0 ≤ v7))  (Option.bind (m_ref09_Outs a0 v7 a2) fun r10 =>  Option.bind (loopO (m_ref09_Set_L1 r10 v7) ((decide (0 < (r10.length : Int)), 0))) fun v18 =>  (Option.bind  (ifB (decide (a1 = 0))  (Option.bind (gi a0.f1 v7) fun v29 =>  ifB v29.f1  (some (true))  (ifB (decide (a1 = 1))  (ifB (decide (0 < (r10.length : Int)))  (some (true))  (ifB (decide (a1 = 2))  (some (v18))  (some (false))))  (ifB (decide (a1 = 2))  (some (v18))  (some (false)))))  (ifB (decide (a1 = 1))  (ifB (decide (0 < (r10.length : Int)))  (some (true))  (ifB (decide (a1 = 2))  (some (v18))  (some (false))))  (ifB (decide (a1 = 2))  (some (v18))  (some (false)))) : Option (Bool)) fun v26 =>  Option.bind  (ifB v26  (some (IntKind.wrap .u32 ((IntKind.wrap .u32 (v6 * 2)) + 1)))  (some (IntKind.wrap .u32 (v6 * 2))) : Option (Int)) fun v40 =>  some (.inl (v40, IntKind.wrap .i64 (v7 - 1)))))  (some (.inr (v6)))
noncomputable def m_ref09_Set (a0 : TProto) (a1 : Int) (a2 : ByteArray) : Option Int :=
 Option.bind (loopO (m_ref09_Set_L0 a0 a2 a1) ((0, IntKind.wrap .i64 ((a0.f1.length : Int) - 1)))) fun v8 =>  (some (v8))
noncomputable def m_ref09_Step_L1 (r10 : List TOut) (a1 : Int) (v7 : Int) (a3 : ByteArray) : (Int × Int) → Option ((Int × Int) ⊕ ((Int)))
 | (v16, v17) =>
 ifB (decide (v17 < (r10.length : Int)))  (Option.bind (m_ref09_Bit a1 v7) fun r20 =>  Option.bind  (ifB r20  (Option.bind (gi r10 v17) fun v24 =>  ifB (decide (v24.f0 = a3))  (Option.bind (m_ref09_Bit v16 v24.f1) fun r26 =>  some ((!r26)))  (some (false)))  (some (false)) : Option (Bool)) fun v21 =>  Option.bind  (ifB v21  (Option.bind (gi r10 v17) fun v31 =>  Option.bind (rq (decide (0 ≤ v31.f1))) fun _ =>  some (IntKind.wrap .u32 (v16 + (shlI .u32 1 v31.f1))))  (some (v16)) : Option (Int)) fun v28 =>  some (.inl (v28, IntKind.wrap .i64 (v17 + 1))))  (some (.inr (v16)))
noncomputable def m_ref09_Step_L0 (a0 : TProto) (a2 : ByteArray) (a1 : Int) (a3 : ByteArray) : (Int × Int) → Option ((Int × Int) ⊕ ((Int)))
 | (v6, v7) =>
 ifB (decide (v7 < (a0.f1.length : Int)))  (Option.bind (m_ref09_Outs a0 v7 a2) fun r10 =>  Option.bind (loopO (m_ref09_Step_L1 r10 a1 v7 a3) ((v6, 0))) fun v18 =>  (some (.inl (v18, IntKind.wrap .i64 (v7 + 1)))))  (some (.inr (v6)))
noncomputable def m_ref09_Step (a0 : TProto) (a1 : Int) (a2 : ByteArray) (a3 : ByteArray) : Option Int :=
 Option.bind (loopO (m_ref09_Step_L0 a0 a2 a1 a3) ((0, 0))) fun v8 =>  (some (v8))
noncomputable def m_ref09_Ends_L3 (v30 : TMove) (a0 : TProto) : ((List Int) × Int) → Option (((List Int) × Int) ⊕ (((List Int)) ⊕ (Bool)))
 | (v38, v39) =>
 ifB (decide (v39 < (v30.f2.length : Int)))  (Option.bind (gi v30.f2 v39) fun v42 =>  Option.bind (gi a0.f1 v42.f1) fun v43 =>  ifB v43.f1  (some (.inr (.inr true)))  (Option.bind (m_ref09_has v38 v42.f1) fun r45 =>  Option.bind  (ifB (!r45)  (Option.bind (rq (decide (([] : List Int).length + v38.length ≤ 1000000))) fun _ =>  Option.bind (rq (decide ((([] : List Int) ++ v38).length + ([v42.f1]).length ≤ 1000000))) fun _ =>  some (((([] : List Int) ++ v38) ++ ([v42.f1]))))  (some (v38)) : Option ((List Int))) fun v46 =>  some (.inl (v46, IntKind.wrap .i64 (v39 + 1)))))  (some (.inr (.inl v38)))
noncomputable def m_ref09_Ends_L2 (a0 : TProto) (v9 : List Int) (v18 : Int) : ((List Int) × Int) → Option (((List Int) × Int) ⊕ (((List Int)) ⊕ (Bool)))
 | (v26, v27) =>
 ifB (decide (v27 < (a0.f2.length : Int)))  (Option.bind (gi a0.f2 v27) fun v30 =>  Option.bind (gi v9 v18) fun v31 =>  ifB (!decide (v30.f1 = v31))  (some (.inl (v26, IntKind.wrap .i64 (v27 + 1))))  (Option.bind (loopO (m_ref09_Ends_L3 v30 a0) ((v26, 0))) fun z => (match z with  | .inl v40 =>  (some (.inl (v40, IntKind.wrap .i64 (v27 + 1))))  | .inr r => (some (.inr (.inr r))))))  (some (.inr (.inl v26)))
noncomputable def m_ref09_Ends_L1 (v9 : List Int) (a0 : TProto) : ((List Int) × Int) → Option (((List Int) × Int) ⊕ (((List Int)) ⊕ (Bool)))
 | (v17, v18) =>
 ifB (decide (v18 < (v9.length : Int)))  (Option.bind (loopO (m_ref09_Ends_L2 a0 v9 v18) ((v17, 0))) fun z => (match z with  | .inl v28 =>  (some (.inl (v28, IntKind.wrap .i64 (v18 + 1))))  | .inr r => (some (.inr (.inr r)))))  (some (.inr (.inl v17)))
noncomputable def m_ref09_Ends_L0 (a2 : Int) (a0 : TProto) : ((List Int) × Int) → Option (((List Int) × Int) ⊕ ((Unit) ⊕ (Bool)))
 | (v9, v10) =>
 ifB (decide (v10 < a2))  (Option.bind (loopO (m_ref09_Ends_L1 v9 a0) ((v9, 0))) fun z => (match z with  | .inl v19 =>  (some (.inl (v19, IntKind.wrap .i64 (v10 + 1))))  | .inr r => (some (.inr (.inr r)))))  (some (.inr (.inl ())))
noncomputable def m_ref09_Ends (a0 : TProto) (a1 : Int) (a2 : Int) : Option Bool :=
 Option.bind (gi a0.f1 a1) fun v1 =>  ifB v1.f1  (some (true))  (ifB (decide (a2 = 0))  (some (false))  (Option.bind (loopO (m_ref09_Ends_L0 a2 a0) (([a1], 0))) fun z => (match z with  | .inl _ =>  (some (false))  | .inr r => (some r))))
noncomputable def m_ref09_Wrong_L1 (v9 : Int) (a0 : TProto) : Int → Option ((Int) ⊕ ((Unit) ⊕ (Int × Int)))
 | v14 =>
 ifB (decide (v14 < v9))  (Option.bind (gi a0.f1 v9) fun v16 =>  Option.bind (gi a0.f1 v14) fun v17 =>  ifB (decide (v16.f0 = v17.f0))  (some (.inr (.inr (1, v9))))  (some (.inl (IntKind.wrap .i64 (v14 + 1)))))  (some (.inr (.inl ())))
noncomputable def m_ref09_Wrong_L0 (a0 : TProto) : Int → Option ((Int) ⊕ ((Unit) ⊕ (Int × Int)))
 | v9 =>
 ifB (decide (v9 < (a0.f1.length : Int)))  (Option.bind (loopO (m_ref09_Wrong_L1 v9 a0) (0)) fun z => (match z with  | .inl _ =>  (some (.inl (IntKind.wrap .i64 (v9 + 1))))  | .inr r => (some (.inr (.inr r)))))  (some (.inr (.inl ())))
noncomputable def m_ref09_Wrong_L3 (a0 : TProto) (v24 : Int) : Int → Option ((Int) ⊕ ((Unit) ⊕ (Int × Int)))
 | v29 =>
 ifB (decide (v29 < (a0.f2.length : Int)))  (Option.bind  (ifB (decide (v24 = 2))  (Option.bind (gi a0.f2 v29) fun v34 =>  Option.bind (m_ref09_fit a0 v34) fun r35 =>  ifB (!r35)  (some (true))  (ifB (decide (v24 = 3))  (Option.bind (m_ref09_again a0 v29) fun r38 =>  ifB r38  (some (true))  (ifB (decide (v24 = 4))  (Option.bind (gi a0.f1 v34.f1) fun v41 =>  some (v41.f1))  (some (false))))  (ifB (decide (v24 = 4))  (Option.bind (gi a0.f1 v34.f1) fun v43 =>  some (v43.f1))  (some (false)))))  (ifB (decide (v24 = 3))  (Option.bind (m_ref09_again a0 v29) fun r45 =>  ifB r45  (some (true))  (ifB (decide (v24 = 4))  (Option.bind (gi a0.f2 v29) fun v48 =>  Option.bind (gi a0.f1 v48.f1) fun v49 =>  some (v49.f1))  (some (false))))  (ifB (decide (v24 = 4))  (Option.bind (gi a0.f2 v29) fun v51 =>  Option.bind (gi a0.f1 v51.f1) fun v52 =>  some (v52.f1))  (some (false)))) : Option (Bool)) fun v31 =>  ifB v31  (some (.inr (.inr (v24, v29))))  (some (.inl (IntKind.wrap .i64 (v29 + 1)))))  (some (.inr (.inl ())))
noncomputable def m_ref09_Wrong_L2 (a0 : TProto) : Int → Option ((Int) ⊕ ((Unit) ⊕ (Int × Int)))
 | v24 =>
 ifB (decide (v24 ≤ 4))  (Option.bind (loopO (m_ref09_Wrong_L3 a0 v24) (0)) fun z => (match z with  | .inl _ =>  (some (.inl (IntKind.wrap .i64 (v24 + 1))))  | .inr r => (some (.inr (.inr r)))))  (some (.inr (.inl ())))
noncomputable def m_ref09_Wrong_L4 (a0 : TProto) : Int → Option ((Int) ⊕ ((Unit) ⊕ (Int × Int)))
 | v60 =>
 ifB (decide (v60 < (a0.f1.length : Int)))  (Option.bind (m_ref09_Ends a0 v60 (a0.f1.length : Int)) fun r62 =>  ifB (!r62)  (some (.inr (.inr (5, v60))))  (some (.inl (IntKind.wrap .i64 (v60 + 1)))))  (some (.inr (.inl ())))
noncomputable def m_ref09_Wrong (a0 : TProto) : Option (Int × Int) :=
 Option.bind  (ifB (decide ((a0.f1.length : Int) < 1))  (some (true))  (some (decide (16 < (a0.f1.length : Int)))) : Option (Bool)) fun v1 =>  ifB v1  (some ((1, 0)))  (Option.bind (loopO (m_ref09_Wrong_L0 a0) (0)) fun z => (match z with  | .inl _ =>  (Option.bind (loopO (m_ref09_Wrong_L2 a0) (2)) fun z => (match z with  | .inl _ =>  (Option.bind (loopO (m_ref09_Wrong_L4 a0) (0)) fun z => (match z with  | .inl _ =>  (some ((0, 0)))  | .inr r => (some r)))  | .inr r => (some r)))  | .inr r => (some r)))
noncomputable def m_auto_Auto_Keeps_1_1 (a0 : TOut) (u0 : TMove) : Option Bool :=
 some ((!decide (a0.f1 = u0.f1)))
noncomputable def m_auto_Auto_Keeps_1 (a0 : TMove) : Option Bool :=
 Option.bind (m_slices_ContainsFunc_api_Out a0.f2 (fun x0 => m_auto_Auto_Keeps_1_1 x0 a0)) fun r1 =>  some ((!r1))
noncomputable def m_auto_Auto_of_L0 (v1 : TAuto_Auto) (a1 : ByteArray) (a2 : (TMove → Option Bool)) : (Int × Int) → Option ((Int × Int) ⊕ ((Int)))
 | (v7, v8) =>
 ifB (decide (v8 < (v1.f0.f2.length : Int)))  (Option.bind (gi v1.f0.f2 v8) fun v11 =>  Option.bind  (ifB (decide (v11.f0 = a1))  (Option.bind (a2 v11) fun r15 =>  some (r15))  (some (false)) : Option (Bool)) fun v12 =>  Option.bind  (ifB v12  (Option.bind (rq (decide (0 ≤ v11.f1))) fun _ =>  some (orI .u32 v7 (shlI .u32 1 v11.f1)))  (some (v7)) : Option (Int)) fun v17 =>  some (.inl (v17, IntKind.wrap .i64 (v8 + 1))))  (some (.inr (v7)))
noncomputable def m_auto_Auto_of (a0 : Option TAuto_Auto) (a1 : ByteArray) (a2 : (TMove → Option Bool)) : Option Int :=
 Option.bind (a0) fun v1 =>  Option.bind (loopO (m_auto_Auto_of_L0 v1 a1 a2) ((0, 0))) fun v9 =>  (some (v9))
noncomputable def m_auto_Auto_Keeps (a0 : Option TAuto_Auto) (a1 : ByteArray) : Option Int :=
 Option.bind (m_auto_Auto_of a0 a1 (fun x0 => m_auto_Auto_Keeps_1 x0)) fun r1 =>  some (r1)
noncomputable def m_auto_Auto_Enabled_1 (a0 : TMove) : Option Bool :=
 some (true)
noncomputable def m_auto_Auto_Enabled (a0 : Option TAuto_Auto) (a1 : ByteArray) : Option Int :=
 Option.bind (m_auto_Auto_of a0 a1 (fun x0 => m_auto_Auto_Enabled_1 x0)) fun r1 =>  some (r1)
noncomputable def m_auto_Auto_Finals (a0 : Option TAuto_Auto) : Option Int :=
 Option.bind (a0) fun v1 =>  Option.bind (m_auto_finals v1.f0) fun r2 =>  some (r2)
noncomputable def m_auto_Auto_Step_L1 (v11 : TMove) (a3 : ByteArray) : (Int × Int) → Option ((Int × Int) ⊕ ((Int)))
 | (v23, v24) =>
 ifB (decide (v24 < (v11.f2.length : Int)))  (Option.bind (gi v11.f2 v24) fun v27 =>  Option.bind  (ifB (decide (v27.f0 = a3))  (Option.bind (rq (decide (0 ≤ v27.f1))) fun _ =>  some (orI .u32 v23 (shlI .u32 1 v27.f1)))  (some (v23)) : Option (Int)) fun v28 =>  some (.inl (v28, IntKind.wrap .i64 (v24 + 1))))  (some (.inr (v23)))
noncomputable def m_auto_Auto_Step_L0 (v1 : TAuto_Auto) (a2 : ByteArray) (a1 : Int) (a3 : ByteArray) : (Int × Int) → Option ((Int × Int) ⊕ ((Int)))
 | (v7, v8) =>
 ifB (decide (v8 < (v1.f0.f2.length : Int)))  (Option.bind (gi v1.f0.f2 v8) fun v11 =>  Option.bind  (ifB (!decide (v11.f0 = a2))  (some (true))  (Option.bind (rq (decide (0 ≤ v11.f1))) fun _ =>  some (decide ((andI .u32 (shrI .u32 a1 v11.f1) 1) = 0))) : Option (Bool)) fun v12 =>  ifB v12  (some (.inl (v7, IntKind.wrap .i64 (v8 + 1))))  (Option.bind (loopO (m_auto_Auto_Step_L1 v11 a3) ((v7, 0))) fun v25 =>  (some (.inl (v25, IntKind.wrap .i64 (v8 + 1))))))  (some (.inr (v7)))
noncomputable def m_auto_Auto_Step (a0 : Option TAuto_Auto) (a1 : Int) (a2 : ByteArray) (a3 : ByteArray) : Option Int :=
 Option.bind (a0) fun v1 =>  Option.bind (loopO (m_auto_Auto_Step_L0 v1 a2 a1 a3) ((0, 0))) fun v9 =>  (some (v9))
noncomputable def m_auto_Auto_Ops_L0 (v1 : TAuto_Auto) : ((List ByteArray) × Int) → Option (((List ByteArray) × Int) ⊕ (((List ByteArray))))
 | (v9, v11) =>
 ifB (decide (v11 < (v1.f0.f2.length : Int)))  (Option.bind (gi v1.f0.f2 v11) fun v15 =>  Option.bind (m_slices_Contains_string v9 v15.f0) fun r16 =>  Option.bind  (ifB (!r16)  (Option.bind (rq (decide (v9.length + ([v15.f0]).length ≤ 1000000))) fun _ =>  some ((v9 ++ ([v15.f0]))))  (some (v9)) : Option ((List ByteArray))) fun v17 =>  some (.inl (v17, IntKind.wrap .i64 (v11 + 1))))  (some (.inr (v9)))
noncomputable def m_auto_Auto_Ops (a0 : Option TAuto_Auto) : Option (List ByteArray) :=
 Option.bind (a0) fun v1 =>  Option.bind (loopO (m_auto_Auto_Ops_L0 v1) (([], 0))) fun v12 =>  (some (v12))
noncomputable def m_auto_Auto_Outcomes_L1 (v15 : TMove) (a1 : ByteArray) : ((List ByteArray) × Int) → Option (((List ByteArray) × Int) ⊕ (((List ByteArray))))
 | (v23, v25) =>
 ifB (decide (v25 < (v15.f2.length : Int)))  (Option.bind (gi v15.f2 v25) fun v29 =>  Option.bind  (ifB (decide (v15.f0 = a1))  (Option.bind (m_slices_Contains_string v23 v29.f0) fun r33 =>  some ((!r33)))  (some (false)) : Option (Bool)) fun v30 =>  Option.bind  (ifB v30  (Option.bind (rq (decide (v23.length + ([v29.f0]).length ≤ 1000000))) fun _ =>  some ((v23 ++ ([v29.f0]))))  (some (v23)) : Option ((List ByteArray))) fun v35 =>  some (.inl (v35, IntKind.wrap .i64 (v25 + 1))))  (some (.inr (v23)))
noncomputable def m_auto_Auto_Outcomes_L0 (v1 : TAuto_Auto) (a1 : ByteArray) : ((List ByteArray) × Int) → Option (((List ByteArray) × Int) ⊕ (((List ByteArray))))
 | (v9, v11) =>
 ifB (decide (v11 < (v1.f0.f2.length : Int)))  (Option.bind (gi v1.f0.f2 v11) fun v15 =>  Option.bind (loopO (m_auto_Auto_Outcomes_L1 v15 a1) ((v9, 0))) fun v26 =>  (some (.inl (v26, IntKind.wrap .i64 (v11 + 1)))))  (some (.inr (v9)))
noncomputable def m_auto_Auto_Outcomes (a0 : Option TAuto_Auto) (a1 : ByteArray) : Option (List ByteArray) :=
 Option.bind (a0) fun v1 =>  Option.bind (loopO (m_auto_Auto_Outcomes_L0 v1 a1) (([], 0))) fun v12 =>  (some (v12))
noncomputable def m_auto_Auto_State_1 (a0 : TState) (u0 : ByteArray) : Option Bool :=
 some (decide (a0.f0 = u0))
noncomputable def m_auto_Auto_State (a0 : Option TAuto_Auto) (a1 : ByteArray) : Option (Int × Bool) :=
 Option.bind (a0) fun v1 =>  Option.bind (m_slices_IndexFunc_api_State v1.f0.f1 (fun x0 => m_auto_Auto_State_1 x0 a1)) fun r2 =>  some (((if r2 < 0 then 0 else r2), decide (0 ≤ r2)))
def m_slices_Clone_api_Out (l : List TOut) : Option (List TOut) := Option.bind (rq (decide (l.length ≤ 1000000))) fun _ => some l
noncomputable def m_slices_Clone_api_Out_A : Code := match Try.f47.body with
  | some (.seq _ (.seq (.seq _ r) _)) => r
  | _ => .skip
noncomputable def m_slices_Clone_api_Out_B : Code := match Try.f47.body with
  | some (.seq _ (.seq (.seq _ _) r)) => r
  | _ => .skip

def m_slices_Clone_api_State (l : List TState) : Option (List TState) := Option.bind (rq (decide (l.length ≤ 1000000))) fun _ => some l
noncomputable def m_slices_Clone_api_State_A : Code := match Try.f59.body with
  | some (.seq _ (.seq (.seq _ r) _)) => r
  | _ => .skip
noncomputable def m_slices_Clone_api_State_B : Code := match Try.f59.body with
  | some (.seq _ (.seq (.seq _ _) r)) => r
  | _ => .skip

def m_slices_Clone_api_Move (l : List TMove) : Option (List TMove) := Option.bind (rq (decide (l.length ≤ 1000000))) fun _ => some l
noncomputable def m_slices_Clone_api_Move_A : Code := match Try.f60.body with
  | some (.seq _ (.seq (.seq _ r) _)) => r
  | _ => .skip
noncomputable def m_slices_Clone_api_Move_B : Code := match Try.f60.body with
  | some (.seq _ (.seq (.seq _ _) r)) => r
  | _ => .skip


noncomputable def m_auto_Auto_Outs_L0 (v1 : TAuto_Auto) (a1 : Int) (a2 : ByteArray) : Int → Option ((Int) ⊕ ((Unit) ⊕ ((List TOut))))
 | v5 =>
 ifB (decide (v5 < (v1.f0.f2.length : Int)))  (Option.bind (gi v1.f0.f2 v5) fun v7 =>  Option.bind  (ifB (decide (v7.f1 = a1))  (some (decide (v7.f0 = a2)))  (some (false)) : Option (Bool)) fun v8 =>  ifB v8  (Option.bind (m_slices_Clone_api_Out v7.f2) fun r13 =>  some (.inr (.inr r13)))  (some (.inl (IntKind.wrap .i64 (v5 + 1)))))  (some (.inr (.inl ())))
noncomputable def m_auto_Auto_Outs (a0 : Option TAuto_Auto) (a1 : Int) (a2 : ByteArray) : Option (List TOut) :=
 Option.bind (a0) fun v1 =>  Option.bind (loopO (m_auto_Auto_Outs_L0 v1 a1 a2) (0)) fun z => (match z with  | .inl _ =>  (some ([]))  | .inr r => (some r))
noncomputable def m_ref09_add_L0 (a0 : List ByteArray) (a1 : ByteArray) : Int → Option ((Int) ⊕ ((Unit) ⊕ (Unit)))
 | v4 => ifB (decide (v4 < (a0.length : Int)))  (Option.bind (gi a0 v4) fun v6 =>  ifB (decide (v6 = a1))  (some (.inr (.inr ())))  (some (.inl (IntKind.wrap .i64 (v4 + 1)))))  (some (.inr (.inl ())))
noncomputable def m_ref09_add_B (a0 : List ByteArray) (a1 : ByteArray) : Option (List ByteArray × Bool) :=
 Option.bind (loopO (m_ref09_add_L0 a0 a1) (0)) fun z => (match z with  | .inl _ =>  (Option.bind (rq (decide (a0.length + ([a1]).length ≤ 1000000))) fun _ =>  some (a0 ++ [a1], false))  | .inr r => (some (a0, true)))
noncomputable def m_ref09_add (a0 : List ByteArray) (a1 : ByteArray) : Option (List ByteArray) := Option.bind (m_ref09_add_B a0 a1) fun r => some r.1



noncomputable def m_ref09_Ops_L0 (a0 : TProto) : ((List ByteArray) × Int) → Option (((List ByteArray) × Int) ⊕ (((List ByteArray))))
 | (v8, v10) =>
 ifB (decide (v10 < (a0.f2.length : Int)))  (Option.bind (gi a0.f2 v10) fun v14 =>  Option.bind (m_ref09_add_B v8 v14.f0) fun r15 =>  some (.inl (r15.1, IntKind.wrap .i64 (v10 + 1))))  (some (.inr (v8)))
noncomputable def m_ref09_Ops (a0 : TProto) : Option (List ByteArray) :=
 Option.bind (loopO (m_ref09_Ops_L0 a0) (([], 0))) fun v11 =>  (some (v11))
noncomputable def m_ref09_Outcomes_L1 (a0 : TProto) (v10 : Int) (a1 : ByteArray) : ((List ByteArray) × Int) → Option (((List ByteArray) × Int) ⊕ (((List ByteArray))))
 | (v21, v23) =>
 Option.bind (gi a0.f2 v10) fun v26 =>  Option.bind  (ifB (decide (v23 < (v26.f2.length : Int)))  (some (decide (v26.f0 = a1)))  (some (false)) : Option (Bool)) fun v27 =>  ifB v27  (Option.bind (gi v26.f2 v23) fun v32 =>  Option.bind (m_ref09_add_B v21 v32.f0) fun r33 =>  some (.inl (r33.1, IntKind.wrap .i64 (v23 + 1))))  (some (.inr (v21)))
noncomputable def m_ref09_Outcomes_L0 (a0 : TProto) (a1 : ByteArray) : ((List ByteArray) × Int) → Option (((List ByteArray) × Int) ⊕ (((List ByteArray))))
 | (v8, v10) =>
 ifB (decide (v10 < (a0.f2.length : Int)))  (Option.bind (loopO (m_ref09_Outcomes_L1 a0 v10 a1) ((v8, 0))) fun v24 =>  (some (.inl (v24, IntKind.wrap .i64 (v10 + 1)))))  (some (.inr (v8)))
noncomputable def m_ref09_Outcomes (a0 : TProto) (a1 : ByteArray) : Option (List ByteArray) :=
 Option.bind (loopO (m_ref09_Outcomes_L0 a0 a1) (([], 0))) fun v11 =>  (some (v11))
noncomputable def m_auto_clone_L0 (r2 : List TMove) : (Int × (List TMove)) → Option ((Int × (List TMove)) ⊕ (((List TMove))))
 | (v8, v9) =>
 ifB (decide (v8 < (r2.length : Int)))  (Option.bind (rq (decide (0 ≤ v8))) fun _ =>  Option.bind (rq (decide (v8 < (v9.length : Int)))) fun _ =>  Option.bind (gi v9 v8) fun v14 =>  Option.bind (m_slices_Clone_api_Out v14.f2) fun r15 =>  some (.inl (IntKind.wrap .i64 (v8 + 1), (v9.set v8.toNat (⟨v14.f0, v14.f1, r15⟩ : TMove)))))  (some (.inr (v9)))
noncomputable def m_auto_clone (a0 : TProto) : Option TProto :=
 Option.bind (m_slices_Clone_api_State a0.f1) fun r1 =>  Option.bind (m_slices_Clone_api_Move a0.f2) fun r2 =>  Option.bind (loopO (m_auto_clone_L0 r2) ((0, r2))) fun v10 =>  (some ((⟨a0.f0, r1, v10⟩ : TProto)))



noncomputable def m_auto_move_2 (a0 : TOut) (u0 : TProto) : Option Bool := Option.bind (m_auto_move_1 a0.f1 u0) fun r1 => some (!r1)
noncomputable def m_auto_move (a0 : TProto) (a1 : TMove) : Option Bool :=
 Option.bind (m_auto_move_1 a1.f1 a0) fun r1 =>  ifB r1  (ifB (decide (0 < (a1.f2.length : Int)))  (Option.bind (m_slices_ContainsFunc_api_Out a1.f2 (fun x0 => m_auto_move_2 x0 a0)) fun r4 =>  some ((!r4)))  (some (false)))  (some (false))
noncomputable def m_auto_Wrong_L0 (a0 : TProto) : Int → Option ((Int) ⊕ ((Unit) ⊕ (Int × Int)))
 | v6 =>
 ifB (decide (v6 < (a0.f2.length : Int)))  (Option.bind (gi a0.f2 v6) fun v8 =>  Option.bind (m_auto_move a0 v8) fun r9 =>  ifB (!r9)  (some (.inr (.inr (2, v6))))  (some (.inl (IntKind.wrap .i64 (v6 + 1)))))  (some (.inr (.inl ())))
noncomputable def m_auto_Wrong_L1 (a0 : TProto) : Int → Option ((Int) ⊕ ((Unit) ⊕ (Int × Int)))
 | v15 =>
 ifB (decide (v15 < (a0.f2.length : Int)))  (Option.bind (m_auto_once a0 v15) fun r17 =>  ifB (!r17)  (some (.inr (.inr (3, v15))))  (some (.inl (IntKind.wrap .i64 (v15 + 1)))))  (some (.inr (.inl ())))
noncomputable def m_auto_Wrong_L2 (a0 : TProto) : Int → Option ((Int) ⊕ ((Unit) ⊕ (Int × Int)))
 | v23 =>
 ifB (decide (v23 < (a0.f2.length : Int)))  (Option.bind (gi a0.f2 v23) fun v25 =>  Option.bind (gi a0.f1 v25.f1) fun v26 =>  ifB v26.f1  (some (.inr (.inr (4, v23))))  (some (.inl (IntKind.wrap .i64 (v23 + 1)))))  (some (.inr (.inl ())))
noncomputable def m_auto_Wrong_L3 (a0 : TProto) (r29 : Int) : Int → Option ((Int) ⊕ ((Unit) ⊕ (Int × Int)))
 | v33 =>
 ifB (decide (v33 < (a0.f1.length : Int)))  (Option.bind (rq (decide (0 ≤ v33))) fun _ =>  ifB (decide ((andI .u32 (shrI .u32 r29 v33) 1) = 0))  (some (.inr (.inr (5, v33))))  (some (.inl (IntKind.wrap .i64 (v33 + 1)))))  (some (.inr (.inl ())))
noncomputable def m_auto_Wrong (a0 : TProto) : Option (Int × Int) :=
 Option.bind (m_auto_states a0) fun r1 =>  ifB (decide (0 ≤ r1))  (some ((1, r1)))  (Option.bind (loopO (m_auto_Wrong_L0 a0) (0)) fun z => (match z with  | .inl _ =>  (Option.bind (loopO (m_auto_Wrong_L1 a0) (0)) fun z => (match z with  | .inl _ =>  (Option.bind (loopO (m_auto_Wrong_L2 a0) (0)) fun z => (match z with  | .inl _ =>  (Option.bind (m_auto_ends a0) fun r29 =>  Option.bind (loopO (m_auto_Wrong_L3 a0 r29) (0)) fun z => (match z with  | .inl _ =>  (some ((0, 0)))  | .inr r => (some r)))  | .inr r => (some r)))  | .inr r => (some r)))  | .inr r => (some r)))
noncomputable def m_auto_New (a0 : TProto) : Option ((Option TAuto_Auto) × Int) :=
 Option.bind (m_auto_Wrong a0) fun r1 =>  ifB (!decide (r1.1 = 0))  (some ((none, 2)))  (Option.bind (m_auto_clone a0) fun r3 =>  some (((some (⟨r3⟩ : TAuto_Auto)), 0)))
noncomputable def m_auto_Auto_Proto (a0 : Option TAuto_Auto) : Option TProto :=
 Option.bind (a0) fun v1 =>  Option.bind (m_auto_clone v1.f0) fun r2 =>  some (r2)
noncomputable def m_law09_awake  : Option Bool :=
 Option.bind (m_auto_Wrong (⟨ByteArray.empty, [(⟨(⟨#[65]⟩ : ByteArray), false⟩ : TState)], []⟩ : TProto)) fun r1 =>  Option.bind (m_auto_New (⟨ByteArray.empty, [(⟨(⟨#[65]⟩ : ByteArray), true⟩ : TState)], []⟩ : TProto)) fun r2 =>  ifB (decide (r1.1 = 5))  (ifB (decide (r1.2 = 0))  (ifB (!(Option.isNone r2.1))  (ifB (decide (r2.2 = 0))  (Option.bind (m_auto_Auto_Finals r2.1) fun r7 =>  some (decide (r7 = 1)))  (some (false)))  (some (false)))  (some (false)))  (some (false))
noncomputable def m_law09_AutoWrong (a0 : TProto) : Option Bool :=
 Option.bind (m_law09_awake) fun r1 =>  Option.bind  (ifB (!r1)  (some (true))  (Option.bind (m_ref09_Small a0) fun r5 =>  some ((!r5))) : Option (Bool)) fun v2 =>  ifB v2  (Option.bind (m_law09_awake) fun r8 =>  some (r8))  (Option.bind (m_auto_Wrong a0) fun r9 =>  Option.bind (m_ref09_Wrong a0) fun r10 =>  Option.bind (m_auto_New a0) fun r11 =>  ifB (decide (r9.1 = r10.1))  (ifB (decide (r9.2 = r10.2))  (ifB ((!(Option.isNone r11.1)) == (decide (r10.1 = 0)))  (ifB ((decide (r11.2 = 0)) == (decide (r10.1 = 0)))  (ifB (Option.isNone r11.1)  (some (true))  (Option.bind (m_auto_Auto_Proto r11.1) fun r17 =>  Option.bind (m_ref09_Like r17 a0) fun r18 =>  some (r18)))  (some (false)))  (some (false)))  (some (false)))  (some (false)))
noncomputable def m_law09_AutoSteps_L1 (v18 : TMove) (r9 : (Option TAuto_Auto) × Int) (a1 : Int) (a2 : Int) (a0 : TProto) : Int → Option ((Int) ⊕ ((Unit) ⊕ (Bool)))
 | v22 =>
 ifB (decide (v22 < (v18.f2.length : Int)))  (Option.bind (gi v18.f2 v22) fun v24 =>  Option.bind (m_auto_Auto_Step r9.1 a1 v18.f0 v24.f0) fun r25 =>  Option.bind (m_auto_Auto_Step r9.1 a2 v18.f0 v24.f0) fun r26 =>  Option.bind (m_ref09_Step a0 a1 v18.f0 v24.f0) fun r27 =>  Option.bind  (ifB (!decide (r25 = r27))  (some (true))  (Option.bind (m_auto_Auto_Step r9.1 (orI .u32 a1 a2) v18.f0 v24.f0) fun r31 =>  ifB (!decide (r31 = (orI .u32 r25 r26)))  (some (true))  (Option.bind (m_auto_Auto_Finals r9.1) fun r33 =>  Option.bind (m_auto_Auto_Step r9.1 r33 v18.f0 v24.f0) fun r34 =>  some ((!decide (r34 = 0))))) : Option (Bool)) fun v28 =>  ifB v28  (some (.inr (.inr false)))  (Option.bind (rq (decide (0 ≤ v18.f1))) fun _ =>  Option.bind  (ifB (decide ((andI .u32 (shrI .u32 a1 v18.f1) 1) = 1))  (Option.bind (rq (decide (0 ≤ v24.f1))) fun _ =>  some (decide ((andI .u32 (shrI .u32 r25 v24.f1) 1) = 0)))  (some (false)) : Option (Bool)) fun v38 =>  ifB v38  (some (.inr (.inr false)))  (some (.inl (IntKind.wrap .i64 (v22 + 1))))))  (some (.inr (.inl ())))
noncomputable def m_law09_AutoSteps_L0 (a0 : TProto) (r9 : (Option TAuto_Auto) × Int) (a1 : Int) (a2 : Int) : Int → Option ((Int) ⊕ ((Unit) ⊕ (Bool)))
 | v16 =>
 ifB (decide (v16 < (a0.f2.length : Int)))  (Option.bind (gi a0.f2 v16) fun v18 =>  Option.bind (loopO (m_law09_AutoSteps_L1 v18 r9 a1 a2 a0) (0)) fun z => (match z with  | .inl _ =>  (some (.inl (IntKind.wrap .i64 (v16 + 1))))  | .inr r => (some (.inr (.inr r)))))  (some (.inr (.inl ())))
noncomputable def m_law09_AutoSteps (a0 : TProto) (a1 : Int) (a2 : Int) : Option Bool :=
 Option.bind (m_law09_awake) fun r1 =>  Option.bind  (ifB (!r1)  (some (true))  (Option.bind (m_ref09_Small a0) fun r5 =>  some ((!r5))) : Option (Bool)) fun v2 =>  ifB v2  (Option.bind (m_law09_awake) fun r8 =>  some (r8))  (Option.bind (m_auto_New a0) fun r9 =>  Option.bind (m_ref09_Wrong a0) fun r10 =>  ifB (!decide (r10.1 = 0))  (some (Option.isNone r9.1))  (ifB (Option.isNone r9.1)  (some (false))  (Option.bind (loopO (m_law09_AutoSteps_L0 a0 r9 a1 a2) (0)) fun z => (match z with  | .inl _ =>  (Option.bind (m_auto_Auto_Step r9.1 a1 (⟨#[63]⟩ : ByteArray) (⟨#[63]⟩ : ByteArray)) fun r46 =>  Option.bind (m_ref09_Step a0 a1 (⟨#[63]⟩ : ByteArray) (⟨#[63]⟩ : ByteArray)) fun r47 =>  some (decide (r46 = r47)))  | .inr r => (some r)))))
noncomputable def m_law09_AutoKeeps_L1 (r23 : List ByteArray) (r9 : (Option TAuto_Auto) × Int) (a1 : Int) (r19 : Int) (v18 : TMove) : Int → Option ((Int) ⊕ ((Unit) ⊕ (Bool)))
 | v27 =>
 ifB (decide (v27 < (r23.length : Int)))  (Option.bind (gi r23 v27) fun v29 =>  Option.bind (m_auto_Auto_Step r9.1 (andI .u32 a1 r19) v18.f0 v29) fun r30 =>  ifB (!decide ((andNotI .u32 r30 (andI .u32 a1 r19)) = 0))  (some (.inr (.inr false)))  (some (.inl (IntKind.wrap .i64 (v27 + 1)))))  (some (.inr (.inl ())))
noncomputable def m_law09_AutoKeeps_L0 (a0 : TProto) (r9 : (Option TAuto_Auto) × Int) (a1 : Int) : Int → Option ((Int) ⊕ ((Unit) ⊕ (Bool)))
 | v16 =>
 ifB (decide (v16 < (a0.f2.length : Int)))  (Option.bind (gi a0.f2 v16) fun v18 =>  Option.bind (m_auto_Auto_Keeps r9.1 v18.f0) fun r19 =>  Option.bind (m_auto_Auto_Keeps r9.1 v18.f0) fun r20 =>  Option.bind (m_auto_Auto_Enabled r9.1 v18.f0) fun r21 =>  ifB (!decide ((andNotI .u32 r20 r21) = 0))  (some (.inr (.inr false)))  (Option.bind (m_auto_Auto_Outcomes r9.1 v18.f0) fun r23 =>  Option.bind (loopO (m_law09_AutoKeeps_L1 r23 r9 a1 r19 v18) (0)) fun z => (match z with  | .inl _ =>  (some (.inl (IntKind.wrap .i64 (v16 + 1))))  | .inr r => (some (.inr (.inr r))))))  (some (.inr (.inl ())))
noncomputable def m_law09_AutoKeeps (a0 : TProto) (a1 : Int) : Option Bool :=
 Option.bind (m_law09_awake) fun r1 =>  Option.bind  (ifB (!r1)  (some (true))  (Option.bind (m_ref09_Small a0) fun r5 =>  some ((!r5))) : Option (Bool)) fun v2 =>  ifB v2  (Option.bind (m_law09_awake) fun r8 =>  some (r8))  (Option.bind (m_auto_New a0) fun r9 =>  Option.bind (m_ref09_Wrong a0) fun r10 =>  ifB (!decide (r10.1 = 0))  (some (Option.isNone r9.1))  (ifB (Option.isNone r9.1)  (some (false))  (Option.bind (loopO (m_law09_AutoKeeps_L0 a0 r9 a1) (0)) fun z => (match z with  | .inl _ =>  (some (true))  | .inr r => (some r)))))
noncomputable def m_law09_AutoEnds_L2 (r36 : List ByteArray) (r9 : (Option TAuto_Auto) × Int) (v21 : Int) (v35 : ByteArray) : (Int × Int) → Option ((Int × Int) ⊕ ((Int)))
 | (v42, v43) =>
 ifB (decide (v43 < (r36.length : Int)))  (Option.bind (gi r36 v43) fun v46 =>  Option.bind (m_auto_Auto_Step r9.1 v21 v35 v46) fun r47 =>  some (.inl (orI .u32 v42 r47, IntKind.wrap .i64 (v43 + 1))))  (some (.inr (v42)))
noncomputable def m_law09_AutoEnds_L1 (r15 : List ByteArray) (r9 : (Option TAuto_Auto) × Int) (v21 : Int) : (Int × Int) → Option ((Int × Int) ⊕ ((Int) ⊕ (Bool)))
 | (v31, v32) =>
 ifB (decide (v32 < (r15.length : Int)))  (Option.bind (gi r15 v32) fun v35 =>  Option.bind (m_auto_Auto_Outcomes r9.1 v35) fun r36 =>  Option.bind (loopO (m_law09_AutoEnds_L2 r36 r9 v21 v35) ((v31, 0))) fun v44 =>  (Option.bind (m_auto_Auto_Enabled r9.1 v35) fun r49 =>  Option.bind (m_auto_Auto_Finals r9.1) fun r50 =>  ifB (!decide ((andI .u32 r49 r50) = 0))  (some (.inr (.inr false)))  (some (.inl (v44, IntKind.wrap .i64 (v32 + 1))))))  (some (.inr (.inl v31)))
noncomputable def m_law09_AutoEnds_L0 (a0 : TProto) (r9 : (Option TAuto_Auto) × Int) (r15 : List ByteArray) : (Int × Int) → Option ((Int × Int) ⊕ ((Unit) ⊕ (Bool)))
 | (v21, v22) =>
 ifB (decide (v22 ≤ (a0.f1.length : Int)))  (Option.bind (m_auto_Auto_Finals r9.1) fun r24 =>  ifB (!decide ((andI .u32 v21 r24) = 0))  (some (.inr (.inr true)))  (Option.bind (loopO (m_law09_AutoEnds_L1 r15 r9 v21) ((v21, 0))) fun z => (match z with  | .inl v33 =>  (some (.inl (v33, IntKind.wrap .i64 (v22 + 1))))  | .inr r => (some (.inr (.inr r))))))  (some (.inr (.inl ())))
noncomputable def m_law09_AutoEnds (a0 : TProto) (a1 : Int) : Option Bool :=
 Option.bind (m_law09_awake) fun r1 =>  Option.bind  (ifB (!r1)  (some (true))  (Option.bind (m_ref09_Small a0) fun r5 =>  some ((!r5))) : Option (Bool)) fun v2 =>  ifB v2  (Option.bind (m_law09_awake) fun r8 =>  some (r8))  (Option.bind (m_auto_New a0) fun r9 =>  Option.bind (m_ref09_Wrong a0) fun r10 =>  ifB (!decide (r10.1 = 0))  (some (Option.isNone r9.1))  (ifB (Option.isNone r9.1)  (some (false))  (Option.bind (rq (decide ((a0.f1.length : Int) ≠ 0))) fun _ =>  Option.bind (rq (decide (0 ≤ (Int.tmod (IntKind.wrap .i64 a1) (a0.f1.length : Int))))) fun _ =>  Option.bind (m_auto_Auto_Ops r9.1) fun r15 =>  Option.bind (loopO (m_law09_AutoEnds_L0 a0 r9 r15) ((shlI .u32 1 (Int.tmod (IntKind.wrap .i64 a1) (a0.f1.length : Int)), 0))) fun z => (match z with  | .inl _ =>  (some (false))  | .inr r => (some r)))))
noncomputable def m_law09_AutoTells_L1 (a0 : TProto) (r11 : (Option TAuto_Auto) × Int) (v30 : ByteArray) : Int → Option ((Int) ⊕ ((Unit) ⊕ (Bool)))
 | v51 =>
 ifB (decide (v51 ≤ (a0.f1.length : Int)))  (Option.bind (m_auto_Auto_Outs r11.1 v51 v30) fun r53 =>  Option.bind (m_ref09_Outs a0 v51 v30) fun r54 =>  Option.bind (m_ref09_Same r53 r54) fun r55 =>  ifB (!r55)  (some (.inr (.inr false)))  (some (.inl (IntKind.wrap .i64 (v51 + 1)))))  (some (.inr (.inl ())))
noncomputable def m_law09_AutoTells_L0 (a0 : TProto) (a1 : ByteArray) (r11 : (Option TAuto_Auto) × Int) : Int → Option ((Int) ⊕ ((Unit) ⊕ (Bool)))
 | v28 =>
 ifB (decide (v28 ≤ (a0.f2.length : Int)))  (Option.bind  (ifB (decide (v28 < (a0.f2.length : Int)))  (Option.bind (gi a0.f2 v28) fun v33 =>  some (v33.f0))  (some (a1)) : Option (ByteArray)) fun v30 =>  Option.bind (m_auto_Auto_Outcomes r11.1 v30) fun r35 =>  Option.bind (m_ref09_Outcomes a0 v30) fun r36 =>  Option.bind (m_ref09_Texts r35 r36) fun r37 =>  Option.bind  (ifB (!r37)  (some (true))  (Option.bind (m_auto_Auto_Enabled r11.1 v30) fun r41 =>  Option.bind (m_ref09_Set a0 1 v30) fun r42 =>  ifB (!decide (r41 = r42))  (some (true))  (Option.bind (m_auto_Auto_Keeps r11.1 v30) fun r44 =>  Option.bind (m_ref09_Set a0 2 v30) fun r45 =>  some ((!decide (r44 = r45))))) : Option (Bool)) fun v38 =>  ifB v38  (some (.inr (.inr false)))  (Option.bind (loopO (m_law09_AutoTells_L1 a0 r11 v30) (-1)) fun z => (match z with  | .inl _ =>  (some (.inl (IntKind.wrap .i64 (v28 + 1))))  | .inr r => (some (.inr (.inr r))))))  (some (.inr (.inl ())))
noncomputable def m_law09_AutoTells_L2 (a0 : TProto) (r11 : (Option TAuto_Auto) × Int) : (ByteArray × Int) → Option ((ByteArray × Int) ⊕ ((ByteArray) ⊕ (Bool)))
 | (v64, v65) =>
 ifB (decide (v65 < (a0.f1.length : Int)))  (Option.bind (gi a0.f1 v65) fun v68 =>  Option.bind (m_auto_Auto_State r11.1 v68.f0) fun r69 =>  Option.bind  (ifB (!decide (r69.1 = v65))  (some (true))  (some ((!r69.2))) : Option (Bool)) fun v70 =>  ifB v70  (some (.inr (.inr false)))  (Option.bind (rq (decide (v64.size + v68.f0.size ≤ 9223372036854775807))) fun _ =>  some (.inl ((v64 ++ v68.f0), IntKind.wrap .i64 (v65 + 1)))))  (some (.inr (.inl v64)))
noncomputable def m_law09_AutoTells (a0 : TProto) (a1 : ByteArray) (a2 : ByteArray) : Option Bool :=
 Option.bind (m_law09_awake) fun r1 =>  Option.bind  (ifB (!r1)  (some (true))  (Option.bind (m_ref09_Small a0) fun r5 =>  ifB (!r5)  (some (true))  (ifB (decide (100 < (a1.size : Int)))  (some (true))  (some (decide (100 < (a2.size : Int)))))) : Option (Bool)) fun v2 =>  ifB v2  (Option.bind (m_law09_awake) fun r10 =>  some (r10))  (Option.bind (m_auto_New a0) fun r11 =>  Option.bind (m_ref09_Wrong a0) fun r12 =>  ifB (!decide (r12.1 = 0))  (some (Option.isNone r11.1))  (Option.bind  (ifB (Option.isNone r11.1)  (some (true))  (Option.bind (m_auto_Auto_Ops r11.1) fun r17 =>  Option.bind (m_ref09_Ops a0) fun r18 =>  Option.bind (m_ref09_Texts r17 r18) fun r19 =>  ifB (!r19)  (some (true))  (Option.bind (m_auto_Auto_Finals r11.1) fun r21 =>  Option.bind (m_ref09_Set a0 0 (⟨#[]⟩ : ByteArray)) fun r22 =>  some ((!decide (r21 = r22))))) : Option (Bool)) fun v14 =>  ifB v14  (some (false))  (Option.bind (loopO (m_law09_AutoTells_L0 a0 a1 r11) (0)) fun z => (match z with  | .inl _ =>  (Option.bind (loopO (m_law09_AutoTells_L2 a0 r11) ((a2, 0))) fun z => (match z with  | .inl v66 =>  (Option.bind (rq (decide (v66.size + (⟨#[39]⟩ : ByteArray).size ≤ 9223372036854775807))) fun _ =>  Option.bind (m_auto_Auto_State r11.1 (v66 ++ (⟨#[39]⟩ : ByteArray))) fun r78 =>  some ((!r78.2)))  | .inr r => (some r)))  | .inr r => (some r)))))
end Go.E
