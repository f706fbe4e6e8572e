import Derived.Test.YthgohaidfaldnaaMO
import Derived.Test.YthgohaidfaldnaaEPl
/-! Auto, plain: first parts. -/
set_option linter.all false
set_option maxRecDepth 10000
namespace Go.E
open Go Go.Proofs Go.Eng
/-- Few states, moves, outcomes. -/
structure Sm (p : TProto) : Prop where
  a : p.f1.length ≤ 80
  b : p.f2.length ≤ 80
  c : ∀ (i : Nat) (h : i < p.f2.length), (p.f2[i]).f2.length ≤ 80
def inB (p : TProto) (i : Int) : Bool := decide (0 ≤ i) && decide (i < (p.f1.length : Int))
theorem in_ref (p : TProto) (i : Int) : m_ref09_in p i = some (inB p i) := by
  unfold m_ref09_in inB
  cases decide (0 ≤ i) <;> rfl
theorem in_auto (p : TProto) (i : Int) : m_auto_move_1 i p = some (inB p i) := by
  unfold m_auto_move_1 inB
  cases decide (0 ≤ i) <;> rfl
def fitB (p : TProto) (m : TMove) : Bool := inB p m.f1 && decide (0 < (m.f2.length : Int)) && !((List.range m.f2.length).any fun i => match m.f2[i]? with | some o => !(inB p o.f1) | none => false)
def badOut (p : TProto) (m : TMove) (i : Nat) : Bool := match m.f2[i]? with | some o => !(inB p o.f1) | none => false
theorem badOut_of {p : TProto} {m : TMove} {i : Nat} (h : i < m.f2.length) : badOut p m i = !(inB p (m.f2[i]).f1) := by
  unfold badOut; rw [List.getElem?_eq_getElem h]
theorem fit_ref {p : TProto} {m : TMove} (h : m.f2.length ≤ 80) : m_ref09_fit p m = some (match fst m.f2.length (badOut p m) with | some _ => false | none => inB p m.f1 && decide (0 < (m.f2.length : Int))) := by
  unfold m_ref09_fit
  rw [show ((0 : Int)) = ((0 : Nat) : Int) from rfl, loopO_first (fun i : Nat => (i : Int)) m.f2.length (badOut p m) (fun _ => false) () ?_ ?_]
  · cases fst m.f2.length (badOut p m) with
    | some i => rfl
    | none =>
      simp only [some_bind', in_ref]
      cases inB p m.f1 <;> rfl
  · intro i hi _
    unfold m_ref09_fit_L0
    simp only [lt_cast, decide_eq_true hi, ifB_true, gi_of hi, some_bind', in_ref, badOut_of hi]
    rw [wrap_succ (by omega)]
    cases inB p (m.f2[i]).f1 <;> rfl
  · intro _
    unfold m_ref09_fit_L0
    simp only [lt_cast, Nat.lt_irrefl, decide_false, ifB_false]
theorem indexOut {l : List TOut} {f : TOut → Option Bool} {g : TOut → Bool} (h : l.length ≤ 80) (hf : ∀ o, f o = some (g o)) : m_slices_IndexFunc_api_Out l f = some (match fst l.length (fun i => match l[i]? with | some o => g o | none => false) with | some i => (i : Int) | none => -1) := by
  unfold m_slices_IndexFunc_api_Out
  rw [show ((0 : Int)) = ((0 : Nat) : Int) from rfl, loopO_first (fun i : Nat => (i : Int)) l.length (fun i => match l[i]? with | some o => g o | none => false) (fun i => (i : Int)) () ?_ ?_]
  · cases fst l.length _ <;> rfl
  · intro i hi _
    unfold m_slices_IndexFunc_api_Out_L0
    simp only [lt_cast, decide_eq_true hi, ifB_true, gi_of hi, some_bind', hf, List.getElem?_eq_getElem hi]
    rw [wrap_succ (by omega)]
    cases g l[i] <;> rfl
  · intro _
    unfold m_slices_IndexFunc_api_Out_L0
    simp only [lt_cast, Nat.lt_irrefl, decide_false, ifB_false]
theorem indexMove {l : List TMove} {f : TMove → Option Bool} {g : TMove → Bool} (h : l.length ≤ 80) (hf : ∀ o, f o = some (g o)) : m_slices_IndexFunc_api_Move l f = some (match fst l.length (fun i => match l[i]? with | some o => g o | none => false) with | some i => (i : Int) | none => -1) := by
  unfold m_slices_IndexFunc_api_Move
  rw [show ((0 : Int)) = ((0 : Nat) : Int) from rfl, loopO_first (fun i : Nat => (i : Int)) l.length (fun i => match l[i]? with | some o => g o | none => false) (fun i => (i : Int)) () ?_ ?_]
  · cases fst l.length _ <;> rfl
  · intro i hi _
    unfold m_slices_IndexFunc_api_Move_L0
    simp only [lt_cast, decide_eq_true hi, ifB_true, gi_of hi, some_bind', hf, List.getElem?_eq_getElem hi]
    rw [wrap_succ (by omega)]
    cases g l[i] <;> rfl
  · intro _
    unfold m_slices_IndexFunc_api_Move_L0
    simp only [lt_cast, Nat.lt_irrefl, decide_false, ifB_false]
theorem nonneg_fst (o : Option Nat) : decide ((0 : Int) ≤ (match o with | some i => (i : Int) | none => -1)) = o.isSome := by
  cases o with
  | none => rfl
  | some i => exact decide_eq_true (Int.natCast_nonneg i)
theorem move_auto {p : TProto} {m : TMove} (h : m.f2.length ≤ 80) : m_auto_move p m = m_ref09_fit p m := by
  rw [fit_ref h]
  unfold m_auto_move
  rw [in_auto]
  simp only [some_bind']
  unfold m_slices_ContainsFunc_api_Out
  rw [indexOut h (g := fun o => !(inB p o.f1)) fun o => by unfold m_auto_move_2; rw [in_auto]; rfl]
  simp only [some_bind', nonneg_fst]
  show _ = some (match fst m.f2.length (badOut p m) with | some _ => false | none => inB p m.f1 && decide (0 < (m.f2.length : Int)))
  rw [show (fun i => match m.f2[i]? with | some o => !(inB p o.f1) | none => false) = badOut p m from rfl]
  cases inB p m.f1 <;> cases decide (0 < (m.f2.length : Int)) <;> cases fst m.f2.length (badOut p m) <;> rfl
/-- The first place whose name stood before. -/
def dup (n : Nat) (nm : Nat → ByteArray) (i : Nat) : Bool := (fst i fun k => decide (nm k = nm i)).isSome
theorem twice_auto {n : Nat} {f : Int → Option ByteArray} {nm : Nat → ByteArray} (h : n ≤ 80) (hf : ∀ i, i < n → f (i : Int) = some (nm i)) : m_auto_twice (n : Int) f = some (match fst n (dup n nm) with | some i => (i : Int) | none => -1) := by
  unfold m_auto_twice
  rw [show ((0 : Int)) = ((0 : Nat) : Int) from rfl, loopO_first (fun i : Nat => (i : Int)) n (dup n nm) (fun i => (i : Int)) () ?_ ?_]
  · cases fst n (dup n nm) <;> rfl
  · intro i hi _
    unfold m_auto_twice_L0
    simp only [lt_cast, decide_eq_true hi, ifB_true]
    rw [show ((0 : Int)) = ((0 : Nat) : Int) from rfl, loopO_first (fun i : Nat => (i : Int)) i (fun k => decide (nm k = nm i)) (fun _ => (i : Int)) () ?_ ?_]
    · unfold dup
      rw [wrap_succ (by omega)]
      cases fst i (fun k => decide (nm k = nm i)) <;> rfl
    · intro k hk _
      unfold m_auto_twice_L1
      simp only [lt_cast, decide_eq_true hk, ifB_true, hf k (by omega), hf i hi, some_bind']
      rw [wrap_succ (by omega)]
      cases decide (nm k = nm i) <;> rfl
    · intro _
      unfold m_auto_twice_L1
      simp only [lt_cast, Nat.lt_irrefl, decide_false, ifB_false]
  · intro _
    unfold m_auto_twice_L0
    simp only [lt_cast, Nat.lt_irrefl, decide_false, ifB_false]
end Go.E
