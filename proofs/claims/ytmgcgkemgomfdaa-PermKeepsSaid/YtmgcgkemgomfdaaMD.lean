import Derived.Test.YtmgcgkemgomfdaaMF
import Derived.Test.YtmgcgkemgomfdaaBRefH
import Derived.Test.YtmgcgkemgomfdaaEMd
set_option linter.all false
set_option maxRecDepth 100000
namespace Go.E
open Go Go.Proofs Go.Eng
variable {TB : Nat → Option Obj}
structure TRat where
  f0 : Int
  f1 : Int
@[go_sem] def cTRat (x : TRat) : List PV := [.int .i64 x.f0, .int .i64 x.f1]
@[go_sem] theorem sz_TRat (l : List TRat) : sizes (l.map cTRat) 2 = True := sizes_m (c := cTRat) (n := 2) (fun _ => rfl) l
structure TPerm where
  f0 : Int
  f1 : TRat
  f2 : Int
  f3 : Int
@[go_sem] def cTPerm (x : TPerm) : List PV := [.int .i64 x.f0, .int .i64 x.f1.f0, .int .i64 x.f1.f1, .int .i64 x.f2, .int .u32 x.f3]
@[go_sem] theorem sz_TPerm (l : List TPerm) : sizes (l.map cTPerm) 5 = True := sizes_m (c := cTPerm) (n := 5) (fun _ => rfl) l
def eqTRat (x y : TRat) : Bool := decide (x.f0 = y.f0) && decide (x.f1 = y.f1)
theorem eqr_TRat (a0 b0 : Int) (a1 b1 : Int) (w : World) : (do eqGuard .eql 25 (.const undef) (.const undef) (.agg #[.int .i64 a0, .int .i64 a1]) (.agg #[.int .i64 b0, .int .i64 b1]); Op.equal 25 (.agg #[.int .i64 a0, .int .i64 a1]) (.agg #[.int .i64 b0, .int .i64 b1]) : Sem Bool).run Try.prog w = .ok (decide (a0 = b0) && decide (a1 = b1)) w := by
  go_simp
  show Sem.run Try.prog (Op.equalIn 10000 _ _ _) w = _
  go_simp
  try simp only [toL]
  by_cases e0 : a0 = b0 <;> by_cases e1 : a1 = b1 <;> simp [e0, e1]
theorem eqS_TRat (x y : TRat) {K : GV → Prop} {neg : Bool} (h : K (.p (.bool (if neg then !(eqTRat x y) else eqTRat x y)))) : gEqS Try.prog 25 [.p (.int .i64 x.f0), .p (.int .i64 x.f1)] [.p (.int .i64 y.f0), .p (.int .i64 y.f1)] neg K :=
  ⟨_, fun w => eqr_TRat _ _ _ _ w, h⟩
def eqTPerm (x y : TPerm) : Bool := decide (x.f0 = y.f0) && decide (x.f1.f0 = y.f1.f0) && decide (x.f1.f1 = y.f1.f1) && decide (x.f2 = y.f2) && decide (x.f3 = y.f3)
theorem eqr_TPerm (a0 b0 : Int) (a1 b1 : Int) (a2 b2 : Int) (a3 b3 : Int) (a4 b4 : Int) (w : World) : (do eqGuard .eql 28 (.const undef) (.const undef) (.agg #[.int .i64 a0, .int .i64 a1, .int .i64 a2, .int .i64 a3, .int .u32 a4]) (.agg #[.int .i64 b0, .int .i64 b1, .int .i64 b2, .int .i64 b3, .int .u32 b4]); Op.equal 28 (.agg #[.int .i64 a0, .int .i64 a1, .int .i64 a2, .int .i64 a3, .int .u32 a4]) (.agg #[.int .i64 b0, .int .i64 b1, .int .i64 b2, .int .i64 b3, .int .u32 b4]) : Sem Bool).run Try.prog w = .ok (decide (a0 = b0) && decide (a1 = b1) && decide (a2 = b2) && decide (a3 = b3) && decide (a4 = b4)) w := by
  go_simp
  show Sem.run Try.prog (Op.equalIn 10000 _ _ _) w = _
  go_simp
  try simp only [toL]
  by_cases e0 : a0 = b0 <;> by_cases e1 : a1 = b1 <;> by_cases e2 : a2 = b2 <;> by_cases e3 : a3 = b3 <;> by_cases e4 : a4 = b4 <;> simp [e0, e1, e2, e3, e4]
theorem eqS_TPerm (x y : TPerm) {K : GV → Prop} {neg : Bool} (h : K (.p (.bool (if neg then !(eqTPerm x y) else eqTPerm x y)))) : gEqS Try.prog 28 [.p (.int .i64 x.f0), .p (.int .i64 x.f1.f0), .p (.int .i64 x.f1.f1), .p (.int .i64 x.f2), .p (.int .u32 x.f3)] [.p (.int .i64 y.f0), .p (.int .i64 y.f1.f0), .p (.int .i64 y.f1.f1), .p (.int .i64 y.f2), .p (.int .u32 y.f3)] neg K :=
  ⟨_, fun w => eqr_TPerm _ _ _ _ _ _ _ _ _ _ w, h⟩
def in64R (r : TRat) : Prop := BallQ.In64 r.f0 ∧ BallQ.In64 r.f1
instance (r : TRat) : Decidable (in64R r) := inferInstanceAs (Decidable (_ ∧ _))
def toR (x : Int × Int × Int) : TRat × Int := (⟨x.1, x.2.1⟩, x.2.2)
noncomputable def m_rat_Right (a0 : TRat) : Option Bool := Option.bind (rq (decide (in64R a0))) fun _ => some (decide (BallQ.Right a0.f0 a0.f1))
noncomputable def m_rat_Add (a0 a1 : TRat) : Option (TRat × Int) := Option.bind (rq (decide (in64R a0 ∧ in64R a1))) fun _ => some (toR (addS a0.f0 a0.f1 a1.f0 a1.f1))
noncomputable def m_rat_Mul (a0 a1 : TRat) : Option (TRat × Int) := Option.bind (rq (decide (in64R a0 ∧ in64R a1))) fun _ => some (toR (mulS a0.f0 a0.f1 a1.f0 a1.f1))
noncomputable def m_rat_minus (a0 : TRat) : Option TRat :=
 some ((⟨IntKind.wrap .i64 (0 - a0.f0), a0.f1⟩ : TRat))
noncomputable def m_rat_Sub (a0 : TRat) (a1 : TRat) : Option (TRat × Int) :=
 Option.bind (m_rat_Right a1) fun r1 =>  ifB (!r1)  (some (((⟨0, 0⟩ : TRat), 2)))  (Option.bind (m_rat_minus a1) fun r3 =>  Option.bind (m_rat_Add a0 r3) fun r4 =>  some ((r4.1, r4.2)))
noncomputable def m_ref01_Do (a0 : Int) (a1 a2 : TRat) : Option (TRat × Int) := Option.bind (rq (decide (in64R a1 ∧ in64R a2))) fun _ => if a0 = 0 then some (toR (addS a1.f0 a1.f1 a2.f0 a2.f1)) else if a0 = 2 then some (toR (mulS a1.f0 a1.f1 a2.f0 a2.f1)) else none
noncomputable def m_perm_one  : Option TRat :=
 some ((⟨1, 1⟩ : TRat))
noncomputable def m_perm_Own  : Option TPerm :=
 Option.bind (m_perm_one) fun r1 =>  some ((⟨0, r1, -1, 0⟩ : TPerm))
noncomputable def m_perm_left (a0 : Int) (a1 : Int) : Option (Int × Bool) :=
 Option.bind  (ifB (decide (a0 < 0))  (some (true))  (some (decide (4 < a0))) : Option (Bool)) fun v1 =>  ifB v1  (some ((0, false)))  (Option.bind  (ifB (decide (a1 = 1))  (some (decide (a0 ≤ 1)))  (some (false)) : Option (Bool)) fun v6 =>  ifB v6  (some ((4, true)))  (Option.bind  (ifB (decide (a1 = 4))  (some (decide (a0 ≤ 1)))  (some (false)) : Option (Bool)) fun v11 =>  ifB v11  (some ((1, true)))  (Option.bind  (ifB (decide (a1 = 2))  (some (decide (a0 = 0)))  (some (false)) : Option (Bool)) fun v16 =>  Option.bind  (ifB v16  (some (v16))  (Option.bind  (ifB (decide (a1 = 3))  (some (decide (a0 = 0)))  (some (false)) : Option (Bool)) fun v23 =>  some (v23)) : Option (Bool)) fun v20 =>  ifB v20  (some ((a1, true)))  (Option.bind  (ifB (decide (a1 = a0))  (some (decide (1 < a0)))  (some (false)) : Option (Bool)) fun v29 =>  Option.bind  (ifB v29  (some (v29))  (ifB (decide (a1 = 4))  (some (decide (a0 = 2)))  (some (false))) : Option (Bool)) fun v33 =>  ifB v33  (some ((a0, true)))  (some ((0, false)))))))
noncomputable def m_perm_parts (a0 : TRat) (a1 : TRat) : Option (TRat × TRat × Int) :=
 Option.bind (m_perm_one) fun r1 =>  Option.bind (m_rat_Sub r1 a1) fun r2 =>  ifB (!decide (r2.2 = 0))  (some ((r2.1, a1, r2.2)))  (Option.bind (m_rat_Mul a0 r2.1) fun r4 =>  ifB (!decide (r4.2 = 0))  (some ((r4.1, a1, r4.2)))  (Option.bind (m_rat_Mul a0 a1) fun r6 =>  some ((r4.1, r6.1, r6.2))))
noncomputable def m_perm_Split (a0 : TPerm) (a1 : Int) (a2 : TRat) (a3 : Int) : Option (TPerm × TPerm × Int) :=
 Option.bind (m_perm_left a0.f0 a1) fun r1 =>  Option.bind  (ifB (decide (a0.f0 = 0))  (some ((!decide (a1 = 3))))  (some (false)) : Option (Bool)) fun v2 =>  Option.bind  (ifB (!r1.2)  (some (true))  (Option.bind (m_rat_Right a0.f1) fun r9 =>  ifB (!r9)  (some (true))  (Option.bind (m_rat_Right a2) fun r11 =>  ifB (!r11)  (some (true))  (ifB (decide (a2.f0 ≤ 0))  (some (true))  (ifB (decide (a2.f1 ≤ a2.f0))  (some (true))  (some ((!(v2 == (!decide (a3 = 0)))))))))) : Option (Bool)) fun v6 =>  ifB v6  (some (((⟨0, (⟨0, 0⟩ : TRat), 0, 0⟩ : TPerm), (⟨0, (⟨0, 0⟩ : TRat), 0, 0⟩ : TPerm), 2)))  (Option.bind (m_perm_parts a0.f1 a2) fun r17 =>  ifB (!decide (r17.2.2 = 0))  (some (((⟨0, (⟨0, 0⟩ : TRat), 0, 0⟩ : TPerm), (⟨0, (⟨0, 0⟩ : TRat), 0, 0⟩ : TPerm), r17.2.2)))  (Option.bind  (ifB (!v2)  (some (a0.f3))  (some (a3)) : Option (Int)) fun v19 =>  some (((⟨r1.1, r17.1, a0.f2, v19⟩ : TPerm), (⟨a1, r17.2.1, a0.f2, v19⟩ : TPerm), 0))))
noncomputable def m_law15_awake  : Option Bool :=
 Option.bind (m_perm_Own) fun r1 =>  Option.bind (m_perm_Split r1 3 (⟨1, 3⟩ : TRat) 0) fun r2 =>  ifB (decide (r2.2.2 = 0))  (ifB (eqTPerm r2.1 (⟨3, (⟨2, 3⟩ : TRat), -1, 0⟩ : TPerm))  (some (eqTPerm r2.2.1 (⟨3, (⟨1, 3⟩ : TRat), -1, 0⟩ : TPerm)))  (some (false)))  (some (false))
noncomputable def m_law15_PermKeeps_L0 (a0 : List Int) (a1 : List Int) : (Int × (List TPerm)) → Option ((Int × (List TPerm)) ⊕ (((List TPerm))))
 | (v14, v15) =>
 ifB (decide (v14 < (a0.length : Int)))  (Option.bind  (ifB (decide (0 < (a1.length : Int)))  (Option.bind (rq (decide ((a1.length : Int) ≠ 0))) fun _ =>  Option.bind (gi a1 (Int.tmod v14 (a1.length : Int))) fun v22 =>  Option.bind (rq (decide ((v15.length : Int) ≠ 0))) fun _ =>  some (Int.tmod (IntKind.wrap .i64 v22) (v15.length : Int)))  (some (0)) : Option (Int)) fun v18 =>  Option.bind (gi a0 v14) fun v25 =>  Option.bind (rq (decide ((5 : Int) ≠ 0))) fun _ =>  Option.bind (rq (decide (0 ≤ v18))) fun _ =>  Option.bind (rq (decide (v18 < (v15.length : Int)))) fun _ =>  Option.bind (gi v15 v18) fun v30 =>  Option.bind  (ifB (decide (v30.f0 = 0))  (some ((!decide ((Int.tmod (IntKind.wrap .i64 v25) 5) = 3))))  (some (false)) : Option (Bool)) fun v31 =>  Option.bind  (ifB v31  (some (3))  (some (0)) : Option (Int)) fun v35 =>  Option.bind (m_perm_Split v30 (Int.tmod (IntKind.wrap .i64 v25) 5) (⟨1, 2⟩ : TRat) v35) fun r39 =>  ifB (!decide (r39.2.2 = 0))  (some (.inl (IntKind.wrap .i64 (v14 + 1), v15)))  (Option.bind (rq (decide (((v15.set v18.toNat r39.1) : List TPerm).length + ([r39.2.1]).length ≤ 1000000))) fun _ =>  some (.inl (IntKind.wrap .i64 (v14 + 1), ((v15.set v18.toNat r39.1) ++ ([r39.2.1]))))))  (some (.inr (v15)))
noncomputable def m_law15_PermKeeps_L1 (v16 : List TPerm) : (Int × (List Int) × Int × Int) → Option ((Int × (List Int) × Int × Int) ⊕ (((List Int) × Int × Int) ⊕ (Bool)))
 | (v53, v54, v55, v56) =>
 ifB (decide (v53 < (v16.length : Int)))  (Option.bind (rq (decide (0 ≤ v53))) fun _ =>  Option.bind (rq (decide (v53 < (v16.length : Int)))) fun _ =>  Option.bind (gi v16 v53) fun v64 =>  Option.bind (rq (decide (0 ≤ v64.f0))) fun _ =>  Option.bind (rq (decide (v64.f0 < 5))) fun _ =>  Option.bind (gi v54 (v64.f0 : Int)) fun v67 =>  Option.bind (rq (decide (v64.f0 < (v54.length : Int)))) fun _ =>  Option.bind (m_ref01_Do 0 (⟨v55, v56⟩ : TRat) v64.f1) fun r70 =>  ifB (!decide (r70.2 = 0))  (some (.inr (.inr false)))  (some (.inl (IntKind.wrap .i64 (v53 + 1), (v54.set v64.f0.toNat (IntKind.wrap .i64 (v67 + 1))), r70.1.f0, r70.1.f1))))  (some (.inr (.inl (v54, v55, v56))))
noncomputable def m_law15_PermKeeps (a0 : List Int) (a1 : List Int) : Option Bool :=
 Option.bind (m_law15_awake) fun r1 =>  Option.bind  (ifB (!r1)  (some (true))  (some (decide (12 < (a0.length : Int)))) : Option (Bool)) fun v2 =>  ifB v2  (Option.bind (m_law15_awake) fun r7 =>  some (r7))  (Option.bind (m_perm_Own) fun r8 =>  Option.bind (loopO (m_law15_PermKeeps_L0 a0 a1) ((0, [r8]))) fun v16 =>  (Option.bind (loopO (m_law15_PermKeeps_L1 v16) ((0, [0, 0, 0, 0, 0], 0, 1))) fun z => (match z with  | .inl (v57, v58, v59) =>  (Option.bind  (ifB (!(eqTRat (⟨v58, v59⟩ : TRat) (⟨1, 1⟩ : TRat)))  (some (true))  (Option.bind (rq (decide (0 ≤ (0 : Int)))) fun _ =>  Option.bind (rq (decide ((0 : Int) < 5))) fun _ =>  Option.bind (gi v57 ((0 : Int) : Int)) fun v78 =>  ifB (decide (0 < v78))  (ifB (decide (1 < (v16.length : Int)))  (some (true))  (Option.bind (rq (decide (0 ≤ (1 : Int)))) fun _ =>  Option.bind (rq (decide ((1 : Int) < 5))) fun _ =>  Option.bind (gi v57 ((1 : Int) : Int)) fun v83 =>  some (decide (1 < v83))))  (Option.bind (rq (decide (0 ≤ (1 : Int)))) fun _ =>  Option.bind (rq (decide ((1 : Int) < 5))) fun _ =>  Option.bind (gi v57 ((1 : Int) : Int)) fun v86 =>  some (decide (1 < v86)))) : Option (Bool)) fun v73 =>  ifB v73  (some (false))  (Option.bind (rq (decide (0 ≤ (1 : Int)))) fun _ =>  Option.bind (rq (decide ((1 : Int) < 5))) fun _ =>  Option.bind (gi v57 ((1 : Int) : Int)) fun v91 =>  ifB (decide (0 < v91))  (Option.bind (rq (decide (0 ≤ (2 : Int)))) fun _ =>  Option.bind (rq (decide ((2 : Int) < 5))) fun _ =>  Option.bind (gi v57 ((2 : Int) : Int)) fun v95 =>  ifB (decide (0 < v95))  (some (false))  (Option.bind (rq (decide (0 ≤ (3 : Int)))) fun _ =>  Option.bind (rq (decide ((3 : Int) < 5))) fun _ =>  Option.bind (gi v57 ((3 : Int) : Int)) fun v99 =>  ifB (!(decide (0 < v99)))  (ifB (decide (0 < v99))  (none)  (some (true)))  (some (false))))  (Option.bind (rq (decide (0 ≤ (2 : Int)))) fun _ =>  Option.bind (rq (decide ((2 : Int) < 5))) fun _ =>  Option.bind (gi v57 ((2 : Int) : Int)) fun v104 =>  ifB (decide (0 < v104))  (Option.bind (rq (decide (0 ≤ (3 : Int)))) fun _ =>  Option.bind (rq (decide ((3 : Int) < 5))) fun _ =>  Option.bind (gi v57 ((3 : Int) : Int)) fun v108 =>  ifB (!(decide (0 < v108)))  (ifB (decide (0 < v108))  (none)  (some (true)))  (some (false)))  (Option.bind (rq (decide (0 ≤ (3 : Int)))) fun _ =>  Option.bind (rq (decide ((3 : Int) < 5))) fun _ =>  Option.bind (gi v57 ((3 : Int) : Int)) fun v113 =>  ifB (decide (0 < v113))  (Option.bind (rq (decide (0 ≤ (4 : Int)))) fun _ =>  Option.bind (rq (decide ((4 : Int) < 5))) fun _ =>  Option.bind (gi v57 ((4 : Int) : Int)) fun v117 =>  some ((!(decide (0 < v117)))))  (some (true))))))  | .inr r => (some r))))
end Go.E
