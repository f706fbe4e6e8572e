import Derived.Test.YthgohaidfaldnaaMO
import Derived.Test.YthgohaidfaldnaaEPl
/-! Plain laws. -/
set_option linter.all false
set_option maxRecDepth 10000
namespace Go.E
open Go Go.Proofs Go.Eng
/-- Few states, moves, outcomes. -/
structure Sm (p : TProto) : Prop where
  a : p.f1.length ≤ 80
  b : p.f2.length ≤ 80
  c : ∀ (i : Nat) (h : i < p.f2.length), (p.f2[i]).f2.length ≤ 80
def inB (p : TProto) (i : Int) : Bool := decide (0 ≤ i) && decide (i < (p.f1.length : Int))
theorem in_ref (p : TProto) (i : Int) : m_ref09_in p i = some (inB p i) := by
  unfold m_ref09_in inB
  cases decide (0 ≤ i) <;> rfl
theorem in_auto (p : TProto) (i : Int) : m_auto_move_1 i p = some (inB p i) := by
  unfold m_auto_move_1 inB
  cases decide (0 ≤ i) <;> rfl
def fitB (p : TProto) (m : TMove) : Bool := inB p m.f1 && decide (0 < (m.f2.length : Int)) && !((List.range m.f2.length).any fun i => match m.f2[i]? with | some o => !(inB p o.f1) | none => false)
def badOut (p : TProto) (m : TMove) (i : Nat) : Bool := match m.f2[i]? with | some o => !(inB p o.f1) | none => false
theorem badOut_of {p : TProto} {m : TMove} {i : Nat} (h : i < m.f2.length) : badOut p m i = !(inB p (m.f2[i]).f1) := by
  unfold badOut; rw [List.getElem?_eq_getElem h]
theorem fit_ref {p : TProto} {m : TMove} (h : m.f2.length ≤ 80) : m_ref09_fit p m = some (match fst m.f2.length (badOut p m) with | some _ => false | none => inB p m.f1 && decide (0 < (m.f2.length : Int))) := by
  unfold m_ref09_fit
  rw [show ((0 : Int)) = ((0 : Nat) : Int) from rfl, loopO_first (fun i : Nat => (i : Int)) m.f2.length (badOut p m) (fun _ => false) () ?_ ?_]
  · cases fst m.f2.length (badOut p m) with
    | some i => rfl
    | none =>
      simp only [some_bind', in_ref]
      cases inB p m.f1 <;> rfl
  · intro i hi _
    unfold m_ref09_fit_L0
    simp only [lt_cast, decide_eq_true hi, ifB_true, gi_of hi, some_bind', in_ref, badOut_of hi]
    rw [wrap_succ (by omega)]
    cases inB p (m.f2[i]).f1 <;> rfl
  · intro _
    unfold m_ref09_fit_L0
    simp only [lt_cast, Nat.lt_irrefl, decide_false, ifB_false]
theorem indexOut {l : List TOut} {f : TOut → Option Bool} {g : TOut → Bool} (h : l.length ≤ 80) (hf : ∀ o, f o = some (g o)) : m_slices_IndexFunc_api_Out l f = some (match fst l.length (fun i => match l[i]? with | some o => g o | none => false) with | some i => (i : Int) | none => -1) := by
  unfold m_slices_IndexFunc_api_Out
  rw [show ((0 : Int)) = ((0 : Nat) : Int) from rfl, loopO_first (fun i : Nat => (i : Int)) l.length (fun i => match l[i]? with | some o => g o | none => false) (fun i => (i : Int)) () ?_ ?_]
  · cases fst l.length _ <;> rfl
  · intro i hi _
    unfold m_slices_IndexFunc_api_Out_L0
    simp only [lt_cast, decide_eq_true hi, ifB_true, gi_of hi, some_bind', hf, List.getElem?_eq_getElem hi]
    rw [wrap_succ (by omega)]
    cases g l[i] <;> rfl
  · intro _
    unfold m_slices_IndexFunc_api_Out_L0
    simp only [lt_cast, Nat.lt_irrefl, decide_false, ifB_false]
theorem indexMove {l : List TMove} {f : TMove → Option Bool} {g : TMove → Bool} (h : l.length ≤ 80) (hf : ∀ o, f o = some (g o)) : m_slices_IndexFunc_api_Move l f = some (match fst l.length (fun i => match l[i]? with | some o => g o | none => false) with | some i => (i : Int) | none => -1) := by
  unfold m_slices_IndexFunc_api_Move
  rw [show ((0 : Int)) = ((0 : Nat) : Int) from rfl, loopO_first (fun i : Nat => (i : Int)) l.length (fun i => match l[i]? with | some o => g o | none => false) (fun i => (i : Int)) () ?_ ?_]
  · cases fst l.length _ <;> rfl
  · intro i hi _
    unfold m_slices_IndexFunc_api_Move_L0
    simp only [lt_cast, decide_eq_true hi, ifB_true, gi_of hi, some_bind', hf, List.getElem?_eq_getElem hi]
    rw [wrap_succ (by omega)]
    cases g l[i] <;> rfl
  · intro _
    unfold m_slices_IndexFunc_api_Move_L0
    simp only [lt_cast, Nat.lt_irrefl, decide_false, ifB_false]
theorem nonneg_fst (o : Option Nat) : decide ((0 : Int) ≤ (match o with | some i => (i : Int) | none => -1)) = o.isSome := by
  cases o with
  | none => rfl
  | some i => exact decide_eq_true (Int.natCast_nonneg i)
theorem move_auto {p : TProto} {m : TMove} (h : m.f2.length ≤ 80) : m_auto_move p m = m_ref09_fit p m := by
  rw [fit_ref h]
  unfold m_auto_move
  rw [in_auto]
  simp only [some_bind']
  unfold m_slices_ContainsFunc_api_Out
  rw [indexOut h (g := fun o => !(inB p o.f1)) fun o => by unfold m_auto_move_2; rw [in_auto]; rfl]
  simp only [some_bind', nonneg_fst]
  show _ = some (match fst m.f2.length (badOut p m) with | some _ => false | none => inB p m.f1 && decide (0 < (m.f2.length : Int)))
  rw [show (fun i => match m.f2[i]? with | some o => !(inB p o.f1) | none => false) = badOut p m from rfl]
  cases inB p m.f1 <;> cases decide (0 < (m.f2.length : Int)) <;> cases fst m.f2.length (badOut p m) <;> rfl
/-- The first place whose name stood before. -/
def dup (n : Nat) (nm : Nat → ByteArray) (i : Nat) : Bool := (fst i fun k => decide (nm k = nm i)).isSome
theorem twice_auto {n : Nat} {f : Int → Option ByteArray} {nm : Nat → ByteArray} (h : n ≤ 80) (hf : ∀ i, i < n → f (i : Int) = some (nm i)) : m_auto_twice (n : Int) f = some (match fst n (dup n nm) with | some i => (i : Int) | none => -1) := by
  unfold m_auto_twice
  rw [show ((0 : Int)) = ((0 : Nat) : Int) from rfl, loopO_first (fun i : Nat => (i : Int)) n (dup n nm) (fun i => (i : Int)) () ?_ ?_]
  · cases fst n (dup n nm) <;> rfl
  · intro i hi _
    unfold m_auto_twice_L0
    simp only [lt_cast, decide_eq_true hi, ifB_true]
    rw [show ((0 : Int)) = ((0 : Nat) : Int) from rfl, loopO_first (fun i : Nat => (i : Int)) i (fun k => decide (nm k = nm i)) (fun _ => (i : Int)) () ?_ ?_]
    · unfold dup
      rw [wrap_succ (by omega)]
      cases fst i (fun k => decide (nm k = nm i)) <;> rfl
    · intro k hk _
      unfold m_auto_twice_L1
      simp only [lt_cast, decide_eq_true hk, ifB_true, hf k (by omega), hf i hi, some_bind']
      rw [wrap_succ (by omega)]
      cases decide (nm k = nm i) <;> rfl
    · intro _
      unfold m_auto_twice_L1
      simp only [lt_cast, Nat.lt_irrefl, decide_false, ifB_false]
  · intro _
    unfold m_auto_twice_L0
    simp only [lt_cast, Nat.lt_irrefl, decide_false, ifB_false]
theorem ofInt_nat {w n : Nat} : BitVec.ofInt w (n : Int) = BitVec.ofNat w n := by
  apply BitVec.eq_of_toNat_eq
  simp [BitVec.toNat_ofInt]
theorem shl_bit {n : Nat} (h : n < 32) : shlI .u32 1 (n : Int) = ((2 ^ n : Nat) : Int) := by
  unfold shlI
  have h2 : 2 ^ n < 2 ^ 32 := Nat.pow_lt_pow_right (by decide) h
  have e : min ((n : Int).toNat) IntKind.u32.bits = n := by simp [IntKind.bits]; omega
  rw [e, IntKind.wrap_u32, Int.one_mul]
  rw [show ((2 : Int) ^ n) = ((2 ^ n : Nat) : Int) from by simp]
  generalize hk : 2 ^ n = k at *
  have h3 : k < 4294967296 := h2
  clear hk e
  omega
theorem or_bit {s n : Nat} (hs : s < 4294967296) (h : n < 32) : orI .u32 (s : Int) (shlI .u32 1 (n : Int)) = ((s ||| 2 ^ n : Nat) : Int) := by
  rw [shl_bit h]
  have h2 : 2 ^ n < 2 ^ 32 := Nat.pow_lt_pow_right (by decide) h
  have h3 : s ||| 2 ^ n < 2 ^ 32 := Nat.or_lt_two_pow (by omega) h2
  unfold orI
  rw [ofInt_nat, ofInt_nat, BitVec.toNat_or, BitVec.toNat_ofNat, BitVec.toNat_ofNat]
  simp only [IntKind.bits]
  rw [Nat.mod_eq_of_lt (show s < 2 ^ 32 by omega), Nat.mod_eq_of_lt h2, IntKind.wrap_u32]
  omega
theorem or_lt {s n : Nat} (hs : s < 4294967296) (h : n < 32) : s ||| 2 ^ n < 4294967296 :=
  Nat.or_lt_two_pow (n := 32) (by omega) (Nat.pow_lt_pow_right (by decide) h)
theorem and_bit {s n : Nat} (hs : s < 4294967296) (h : n < 32) : andI .u32 (shrI .u32 (s : Int) (n : Int)) 1 = if s.testBit n then 1 else 0 := by
  have e : min ((n : Int).toNat) IntKind.u32.bits = n := by simp [IntKind.bits]; omega
  have e2 : shrI .u32 (s : Int) (n : Int) = ((s / 2 ^ n : Nat) : Int) := by
    unfold shrI
    rw [e, Int.fdiv_eq_ediv_of_nonneg _ (by exact Int.le_of_lt (Int.pow_pos (by decide)))]
    simp
  have h3 : s / 2 ^ n < 2 ^ 32 := Nat.lt_of_le_of_lt (Nat.div_le_self _ _) (by omega)
  rw [e2]
  unfold andI
  rw [show (1 : Int) = ((1 : Nat) : Int) from rfl, ofInt_nat, ofInt_nat, BitVec.toNat_and, BitVec.toNat_ofNat, BitVec.toNat_ofNat]
  simp only [IntKind.bits]
  rw [Nat.mod_eq_of_lt h3, Nat.mod_eq_of_lt (show 1 < 2 ^ 32 by decide), Nat.and_one_is_mod, IntKind.wrap_u32]
  rw [Nat.testBit_eq_decide_div_mod_eq]
  rcases Nat.mod_two_eq_zero_or_one (s / 2 ^ n) with h | h <;> simp [h]
def sameM (p : TProto) (m : TMove) (j : Nat) : Bool := match p.f2[j]? with | some x => decide (x.f0 = m.f0) && decide (x.f1 = m.f1) | none => false
def nmO (m : TMove) (k : Nat) : ByteArray := match m.f2[k]? with | some o => o.f0 | none => ByteArray.empty
def nmS (p : TProto) (k : Nat) : ByteArray := match p.f1[k]? with | some o => o.f0 | none => ByteArray.empty
def againM (p : TProto) (m : TMove) (i : Nat) : Bool := (fst i (sameM p m)).isSome || (fst m.f2.length (dup m.f2.length (nmO m))).isSome
theorem again_ref {p : TProto} {i : Nat} (h : i < p.f2.length) (hb : p.f2.length ≤ 80) (hc : (p.f2[i]).f2.length ≤ 80) : m_ref09_again p (i : Int) = some (againM p p.f2[i] i) := by
  unfold m_ref09_again
  rw [gi_of h]
  simp only [some_bind']
  rw [show ((0 : Int)) = ((0 : Nat) : Int) from rfl, loopO_first (fun i : Nat => (i : Int)) i (sameM p p.f2[i]) (fun _ => true) () ?_ ?_]
  · unfold againM
    cases fst i (sameM p p.f2[i]) with
    | some _ => rfl
    | none =>
      simp only [some_bind']
      rw [loopO_first (fun i : Nat => (i : Int)) (p.f2[i]).f2.length (dup (p.f2[i]).f2.length (nmO p.f2[i])) (fun _ => true) () ?_ ?_]
      · cases fst (p.f2[i]).f2.length (dup (p.f2[i]).f2.length (nmO p.f2[i])) <;> rfl
      · intro k hk _
        unfold m_ref09_again_L1
        simp only [lt_cast, decide_eq_true hk, ifB_true]
        rw [show ((0 : Int)) = ((0 : Nat) : Int) from rfl, loopO_first (fun i : Nat => (i : Int)) k (fun j => decide (nmO p.f2[i] j = nmO p.f2[i] k)) (fun _ => true) () ?_ ?_]
        · unfold dup
          rw [wrap_succ (by omega)]
          cases fst k (fun j => decide (nmO p.f2[i] j = nmO p.f2[i] k)) <;> rfl
        · intro j hj _
          unfold m_ref09_again_L2
          have hj' : j < (p.f2[i]).f2.length := by omega
          simp only [lt_cast, decide_eq_true hj, ifB_true, gi_of hk, gi_of hj', some_bind', nmO, List.getElem?_eq_getElem hk, List.getElem?_eq_getElem hj']
          rw [wrap_succ (by omega), show decide (((p.f2[i]).f2[k]).f0 = ((p.f2[i]).f2[j]).f0) = decide (((p.f2[i]).f2[j]).f0 = ((p.f2[i]).f2[k]).f0) from decide_eq_decide.2 ⟨Eq.symm, Eq.symm⟩]
          cases decide (((p.f2[i]).f2[j]).f0 = ((p.f2[i]).f2[k]).f0) <;> rfl
        · intro _
          unfold m_ref09_again_L2
          simp only [lt_cast, Nat.lt_irrefl, decide_false, ifB_false]
      · intro _
        unfold m_ref09_again_L1
        simp only [lt_cast, Nat.lt_irrefl, decide_false, ifB_false]
  · intro k hk _
    unfold m_ref09_again_L0
    have hk' : k < p.f2.length := by omega
    simp only [lt_cast, decide_eq_true hk, ifB_true, gi_of hk', some_bind', sameM, List.getElem?_eq_getElem hk']
    rw [wrap_succ (by omega)]
    cases decide ((p.f2[k]).f0 = (p.f2[i]).f0) <;> cases decide ((p.f2[k]).f1 = (p.f2[i]).f1) <;> rfl
  · intro _
    unfold m_ref09_again_L0
    simp only [lt_cast, Nat.lt_irrefl, decide_false, ifB_false]
theorem once_auto {p : TProto} {i : Nat} (h : i < p.f2.length) (hb : p.f2.length ≤ 80) (hc : (p.f2[i]).f2.length ≤ 80) : m_auto_once p (i : Int) = some (!againM p p.f2[i] i) := by
  unfold m_auto_once
  rw [gi_of h]
  simp only [some_bind']
  have e : subL p.f2 0 (i : Int) = some (p.f2.take i) := by
    unfold subL
    rw [if_pos ⟨by omega, by omega, by omega⟩]
    simp
  rw [e]
  simp only [some_bind']
  unfold m_slices_ContainsFunc_api_Move
  have hl : (p.f2.take i).length = i := by rw [List.length_take]; omega
  rw [indexMove (by omega) (g := fun x => decide (x.f0 = (p.f2[i]).f0) && decide (x.f1 = (p.f2[i]).f1)) fun o => by unfold m_auto_once_1; cases decide (o.f0 = (p.f2[i]).f0) <;> rfl]
  simp only [some_bind', nonneg_fst]
  rw [hl, fst_congr (P' := sameM p p.f2[i]) fun j hj => by unfold sameM; rw [List.getElem?_take_of_lt hj] <;> (cases p.f2[j]? <;> rfl)]
  rw [twice_auto hc (nm := nmO p.f2[i]) fun k hk => by unfold m_auto_once_2 nmO; rw [gi_of hk, List.getElem?_eq_getElem hk]; rfl]
  simp only [some_bind']
  unfold againM
  cases fst i (sameM p p.f2[i]) with
  | some _ => rfl
  | none =>
    cases hq : fst (p.f2[i]).f2.length (dup (p.f2[i]).f2.length (nmO p.f2[i])) with
    | none => rfl
    | some k =>
      show some (decide ((k : Int) < 0)) = _
      rw [decide_eq_false (by omega)]; rfl
theorem states_auto {p : TProto} (h : p.f1.length ≤ 80) : m_auto_states p = some (if p.f1.length < 1 ∨ 16 < p.f1.length then 0 else match fst p.f1.length (dup p.f1.length (nmS p)) with | some i => (i : Int) | none => -1) := by
  unfold m_auto_states
  by_cases h1 : p.f1.length < 1
  · rw [decide_eq_true (by omega), ifB_true, if_pos (.inl h1)]
  · rw [decide_eq_false (by omega), ifB_false]
    by_cases h2 : 16 < p.f1.length
    · rw [decide_eq_true (by omega), ifB_true, if_pos (.inr h2)]
    · rw [decide_eq_false (by omega), ifB_false, if_neg (by omega)]
      rw [twice_auto h (nm := nmS p) fun i hi => by unfold m_auto_states_1 nmS; rw [gi_of hi, List.getElem?_eq_getElem hi]; rfl]
      try rfl
def finB (p : TProto) (i : Nat) : Bool := match p.f1[i]? with | some s => s.f1 | none => false
theorem finB_lt {p : TProto} {i : Nat} (h : finB p i = true) : i < p.f1.length := by
  unfold finB at h
  cases hq : p.f1[i]? with
  | none => rw [hq] at h; cases h
  | some s => exact (List.getElem?_eq_some_iff.1 hq).1
theorem finals_auto {p : TProto} (h : p.f1.length ≤ 16) : ∃ s : Nat, m_auto_finals p = some (s : Int) ∧ s < 4294967296 ∧ ∀ i, s.testBit i = finB p i := by
  unfold m_auto_finals
  have key : ∃ r, loopO (m_auto_finals_L0 p) (0, 0) = some r ∧ ∃ s : Nat, r = (s : Int) ∧ s < 4294967296 ∧ ∀ j, s.testBit j = finB p j := by
    refine loopO_count p.f1.length (fun i st => st.2 = (i : Int) ∧ ∃ s : Nat, st.1 = (s : Int) ∧ s < 4294967296 ∧ ∀ j, s.testBit j = (decide (j < i) && finB p j)) _ ?_ ?_ ⟨rfl, 0, rfl, by decide, by simp⟩
    · rintro i ⟨v, w⟩ hi ⟨rfl, s, rfl, hs, hb⟩
      left
      unfold m_auto_finals_L0
      simp only [lt_cast, decide_eq_true hi, ifB_true, gi_of hi, some_bind']
      rw [wrap_succ (by omega), rq_true (decide_eq_true (by omega))]
      have hf : finB p i = (p.f1[i]).f1 := by unfold finB; rw [List.getElem?_eq_getElem hi]
      cases hq : (p.f1[i]).f1 with
      | true =>
        refine ⟨_, rfl, rfl, s ||| 2 ^ i, or_bit hs (by omega), or_lt hs (by omega), fun j => ?_⟩
        rw [Nat.testBit_or, hb, Nat.testBit_two_pow]
        by_cases e : i = j
        · subst e
          rw [hf, hq]
          simp
        · rw [decide_eq_false e, Bool.or_false]
          by_cases e2 : j < i
          · rw [decide_eq_true e2, decide_eq_true (by omega)]
          · rw [decide_eq_false e2, decide_eq_false (by omega)]
      | false =>
        refine ⟨_, rfl, rfl, s, rfl, hs, fun j => ?_⟩
        rw [hb]
        by_cases e : i = j
        · subst e
          rw [hf, hq]
          simp
        · by_cases e2 : j < i
          · rw [decide_eq_true e2, decide_eq_true (by omega)]
          · rw [decide_eq_false e2, decide_eq_false (by omega)]
    · rintro ⟨v, w⟩ ⟨rfl, s, rfl, hs, hb⟩
      unfold m_auto_finals_L0
      simp only [lt_cast, Nat.lt_irrefl, decide_false, ifB_false]
      refine ⟨_, rfl, s, rfl, hs, fun j => ?_⟩
      rw [hb]
      by_cases e : j < p.f1.length
      · rw [decide_eq_true e, Bool.true_and]
      · rw [decide_eq_false e, Bool.false_and]
        cases hq : finB p j with
        | false => rfl
        | true => exact absurd (finB_lt hq) e
  obtain ⟨r, hr, s, rfl, h1, h2⟩ := key
  exact ⟨s, by rw [hr]; rfl, h1, h2⟩
/-- A move that stands so, with an outcome that stands so. -/
def Edge (p : TProto) (k l i j : Nat) : Prop := ∃ m o, p.f2[k]? = some m ∧ m.f2[l]? = some o ∧ m.f1 = (i : Int) ∧ o.f1 = (j : Int)
inductive Reach (p : TProto) : Nat → Prop
  | fin {i : Nat} : finB p i = true → Reach p i
  | step {i j k l : Nat} : Edge p k l i j → Reach p j → Reach p i
/-- Every move fits. -/
def Fits (p : TProto) : Prop := ∀ (k : Nat) (m : TMove), p.f2[k]? = some m → (∃ i : Nat, m.f1 = (i : Int) ∧ i < p.f1.length) ∧ ∀ (l : Nat) (o : TOut), m.f2[l]? = some o → ∃ j : Nat, o.f1 = (j : Int) ∧ j < p.f1.length
def Ok (p : TProto) (s k l : Nat) : Prop := ∀ i j, Edge p k l i j → s.testBit j = true → s.testBit i = true
structure EI (p : TProto) (s s' : Nat) (fl : Bool) (D : Nat → Nat → Prop) : Prop where
  lt : s' < 4294967296
  le : s ≤ s'
  sub : ∀ i, s.testBit i = true → s'.testBit i = true
  sound : ∀ i, s'.testBit i = true → Reach p i
  no : fl = false → s' = s ∧ ∀ k l, D k l → Ok p s' k l
  yes : fl = true → s < s'
theorem ends_L2 {p : TProto} (hf : Fits p) (hn : p.f1.length ≤ 16) {k : Nat} {m : TMove} (hm : p.f2[k]? = some m) (ho : m.f2.length ≤ 80) {s s' : Nat} {fl : Bool} (h : EI p s s' fl fun k' _ => k' < k) :
    ∃ r, loopO (m_auto_ends_L2 m) ((s' : Int), fl, 0) = some r ∧ ∃ t : Nat, r.1 = (t : Int) ∧ EI p s t r.2 fun k' _ => k' < k + 1 := by
  refine loopO_count m.f2.length (fun l st => st.2.2 = (l : Int) ∧ ∃ t : Nat, st.1 = (t : Int) ∧ EI p s t st.2.1 fun k' l' => k' < k ∨ (k' = k ∧ l' < l)) _ ?_ ?_ ⟨rfl, s', rfl, ⟨h.lt, h.le, h.sub, h.sound, fun e => ⟨(h.no e).1, fun k' l' hd => (h.no e).2 k' l' (by rcases hd with hd | hd <;> omega)⟩, h.yes⟩⟩
  · rintro l ⟨v, f, w⟩ hl ⟨rfl, t, rfl, hi⟩
    left
    obtain ⟨⟨a, ha, han⟩, hto⟩ := hf k m hm
    obtain ⟨b, hb, hbn⟩ := hto l m.f2[l] (List.getElem?_eq_getElem hl)
    have hedge : Edge p k l a b := ⟨m, m.f2[l], hm, List.getElem?_eq_getElem hl, ha, hb⟩
    have huniq : ∀ i j, Edge p k l i j → i = a ∧ j = b := by
      rintro i j ⟨m', o', h1, h2, h3, h4⟩
      rw [hm] at h1; cases h1
      rw [List.getElem?_eq_getElem hl] at h2; cases h2
      rw [ha] at h3; rw [hb] at h4
      omega
    unfold m_auto_ends_L2
    simp only [lt_cast, decide_eq_true hl, ifB_true, gi_of hl, some_bind', hb, ha]
    rw [wrap_succ (by omega), rq_true (decide_eq_true (show (0 : Int) ≤ (b : Int) by omega)), rq_true (decide_eq_true (show (0 : Int) ≤ (a : Int) by omega)), and_bit hi.lt (by omega), and_bit hi.lt (by omega)]
    simp only [some_bind']
    cases hbb : t.testBit b with
    | false =>
      refine ⟨_, rfl, rfl, t, rfl, hi.lt, hi.le, hi.sub, hi.sound, fun e => ⟨(hi.no e).1, fun k' l' hd => ?_⟩, hi.yes⟩
      by_cases e2 : k' = k ∧ l' = l
      · obtain ⟨rfl, rfl⟩ := e2
        intro i j he hj
        obtain ⟨rfl, rfl⟩ := huniq i j he
        rw [hbb] at hj; cases hj
      · exact (hi.no e).2 k' l' (by omega)
    | true =>
      cases haa : t.testBit a with
      | true =>
        refine ⟨_, rfl, rfl, t, rfl, hi.lt, hi.le, hi.sub, hi.sound, fun e => ⟨(hi.no e).1, fun k' l' hd => ?_⟩, hi.yes⟩
        by_cases e2 : k' = k ∧ l' = l
        · obtain ⟨rfl, rfl⟩ := e2
          intro i j he hj
          obtain ⟨rfl, rfl⟩ := huniq i j he
          exact haa
        · exact (hi.no e).2 k' l' (by omega)
      | false =>
        have hlt : t < t ||| 2 ^ a := by
          have h1 : t ≤ t ||| 2 ^ a := Nat.left_le_or
          have h2 : t ≠ t ||| 2 ^ a := fun e => by
            have := congrArg (fun x => x.testBit a) e
            simp only [Nat.testBit_or, Nat.testBit_two_pow, haa] at this
            simp at this
          omega
        have hbit : ∀ i, (t ||| 2 ^ a).testBit i = true → t.testBit i = true ∨ i = a := fun i h => by
          rw [Nat.testBit_or, Nat.testBit_two_pow] at h
          by_cases e : a = i
          · exact .inr e.symm
          · rw [decide_eq_false e, Bool.or_false] at h; exact .inl h
        refine ⟨_, rfl, rfl, t ||| 2 ^ a, or_bit hi.lt (by omega), or_lt hi.lt (by omega), by have := hi.le; omega, fun i h => by rw [Nat.testBit_or, hi.sub i h]; rfl, fun i h => ?_, fun e => (by cases e), fun _ => by have := hi.le; omega⟩
        rcases hbit i h with h | rfl
        · exact hi.sound i h
        · exact .step hedge (hi.sound b hbb)
  · rintro ⟨v, f, w⟩ ⟨rfl, t, rfl, hi⟩
    unfold m_auto_ends_L2
    simp only [lt_cast, Nat.lt_irrefl, decide_false, ifB_false]
    refine ⟨_, rfl, t, rfl, hi.lt, hi.le, hi.sub, hi.sound, fun e => ⟨(hi.no e).1, fun k' l' hd => ?_⟩, hi.yes⟩
    by_cases e2 : k' < k ∨ (k' = k ∧ l' < m.f2.length)
    · exact (hi.no e).2 k' l' e2
    · have e3 : k' = k := by omega
      subst e3
      rintro i j ⟨m', o', h1, h2, _⟩
      rw [hm] at h1; cases h1
      have := (List.getElem?_eq_some_iff.1 h2).1
      omega
theorem ends_L1 {p : TProto} (hf : Fits p) (hn : p.f1.length ≤ 16) (sm : Sm p) {s : Nat} (hs : s < 4294967296) (hso : ∀ i, s.testBit i = true → Reach p i) :
    ∃ r, loopO (m_auto_ends_L1 p) ((s : Int), false, 0) = some r ∧ ∃ t : Nat, r.1 = (t : Int) ∧ EI p s t r.2 fun _ _ => True := by
  refine loopO_count p.f2.length (fun k st => st.2.2 = (k : Int) ∧ ∃ t : Nat, st.1 = (t : Int) ∧ EI p s t st.2.1 fun k' _ => k' < k) _ ?_ ?_ ⟨rfl, s, rfl, ⟨hs, Nat.le_refl _, fun _ h => h, hso, fun _ => ⟨rfl, fun k l hd => absurd hd (Nat.not_lt_zero _)⟩, fun e => (by cases e)⟩⟩
  · rintro k ⟨v, f, w⟩ hk ⟨rfl, t, rfl, hi⟩
    left
    obtain ⟨⟨v2, f2⟩, hr, t2, rfl, hi2⟩ := ends_L2 hf hn (List.getElem?_eq_getElem hk) (sm.c k hk) hi
    have hkb := sm.b
    unfold m_auto_ends_L1
    simp only [lt_cast, decide_eq_true hk, ifB_true, gi_of hk, some_bind', hr]
    rw [wrap_succ (by omega)]
    exact ⟨_, rfl, rfl, t2, rfl, hi2⟩
  · rintro ⟨v, f, w⟩ ⟨rfl, t, rfl, hi⟩
    unfold m_auto_ends_L1
    simp only [lt_cast, Nat.lt_irrefl, decide_false, ifB_false]
    refine ⟨_, rfl, t, rfl, hi.lt, hi.le, hi.sub, hi.sound, fun e => ⟨(hi.no e).1, fun k l _ => ?_⟩, hi.yes⟩
    by_cases hk : k < p.f2.length
    · exact (hi.no e).2 k l hk
    · rintro i j ⟨m, o, h1, _⟩
      exact absurd (List.getElem?_eq_some_iff.1 h1).1 hk
theorem ends_auto {p : TProto} (hf : Fits p) (hn : p.f1.length ≤ 16) (sm : Sm p) : ∃ s : Nat, m_auto_ends p = some (s : Int) ∧ s < 4294967296 ∧ ∀ i, s.testBit i = true ↔ Reach p i := by
  obtain ⟨s0, h0, hlt0, hb0⟩ := finals_auto hn
  have key : ∃ r, loopO (m_auto_ends_L0 p) ((s0 : Int), true) = some r ∧ ∃ s : Nat, r = (s : Int) ∧ s < 4294967296 ∧ ∀ i, s.testBit i = true ↔ Reach p i := by
    refine loopO_total (fun st => ∃ s : Nat, st.1 = (s : Int) ∧ s < 4294967296 ∧ (∀ i, s.testBit i = true → Reach p i) ∧ (∀ i, finB p i = true → s.testBit i = true) ∧ (st.2 = false → ∀ k l, Ok p s k l))
      (fun st => 2 * (4294967296 - st.1.toNat) + (if st.2 then 1 else 0)) _ ?_ _ ⟨s0, rfl, hlt0, fun i h => .fin (by rw [← hb0]; exact h), fun i h => by rw [hb0]; exact h, fun e => (by cases e)⟩
    rintro ⟨v, f⟩ ⟨s, rfl, hlt, hso, hfi, hcl⟩
    cases f with
    | true =>
      left
      obtain ⟨⟨v2, f2⟩, hr, t, rfl, hi⟩ := ends_L1 hf hn sm hlt hso
      refine ⟨((t : Int), f2), ?_, ⟨t, rfl, hi.lt, hi.sound, fun i h => hi.sub i (hfi i h), fun e k l => (hi.no e).2 k l trivial⟩, ?_⟩
      · unfold m_auto_ends_L0
        simp only [ifB_true, hr]
        rfl
      · have h1 := hi.lt
        cases f2 with
        | false =>
          obtain ⟨rfl, _⟩ := hi.no rfl
          simp
        | true =>
          have := hi.yes rfl
          simp
          omega
    | false =>
      right
      refine ⟨(s : Int), by unfold m_auto_ends_L0; simp only [ifB_false], s, rfl, hlt, fun i => ⟨hso i, fun h => ?_⟩⟩
      induction h with
      | fin h => exact hfi _ h
      | step he _ ih => exact hcl rfl _ _ _ _ he ih
  obtain ⟨r, hr, s, rfl, h1, h2⟩ := key
  refine ⟨s, ?_, h1, h2⟩
  unfold m_auto_ends
  rw [h0]
  simp only [some_bind']
  rw [hr]
  rfl
theorem pigeon : ∀ (n : Nat) (S : List Nat), S.Nodup → (∀ x ∈ S, x < n) → S.length ≤ n
  | 0, S, _, h => by
    cases S with
    | nil => exact Nat.le_refl _
    | cons a l => exact absurd (h a (by simp)) (Nat.not_lt_zero _)
  | n + 1, S, hnd, h => by
    by_cases hm : n ∈ S
    · have h1 := pigeon n (S.erase n) (hnd.erase n) fun x hx => by
        have h2 := (List.Nodup.mem_erase_iff hnd).1 hx
        have := h x h2.2
        omega
      rw [List.length_erase_of_mem hm] at h1
      omega
    · have h1 := pigeon n S hnd fun x hx => by
        have := h x hx
        have : x ≠ n := fun e => hm (e ▸ hx)
        omega
      omega
abbrev cst (S : List Nat) : List Int := S.map fun n : Nat => (n : Int)
theorem has_ref {S : List Nat} {b : Nat} (h : S.length ≤ 1000) : m_ref09_has (cst S) (b : Int) = some (decide (b ∈ S)) := by
  unfold m_ref09_has
  have hl : (cst S).length = S.length := by simp
  rw [show ((0 : Int)) = ((0 : Nat) : Int) from rfl, loopO_first (fun i : Nat => (i : Int)) S.length (fun i => match S[i]? with | some x => decide (x = b) | none => false) (fun _ => true) () ?_ ?_]
  · cases hq : fst S.length (fun i => match S[i]? with | some x => decide (x = b) | none => false) with
    | some i =>
      obtain ⟨h1, h2⟩ := fst_some hq
      rw [List.getElem?_eq_getElem h1] at h2
      have : b ∈ S := by rw [← of_decide_eq_true h2]; exact List.getElem_mem h1
      rw [decide_eq_true this]; rfl
    | none =>
      rw [fst_none] at hq
      have : b ∉ S := fun hb => by
        obtain ⟨i, hi, he⟩ := List.getElem_of_mem hb
        have := hq i hi
        rw [List.getElem?_eq_getElem hi] at this
        exact absurd he (of_decide_eq_false this)
      rw [decide_eq_false this]; rfl
  · intro i hi _
    unfold m_ref09_has_L0
    have hi' : i < (cst S).length := by omega
    simp only [hl, lt_cast, decide_eq_true hi, ifB_true, gi_of hi', some_bind', List.getElem?_eq_getElem hi, List.getElem_map]
    rw [wrap_succ (by omega), show decide (((S[i] : Nat) : Int) = (b : Int)) = decide (S[i] = b) from decide_eq_decide.2 (by omega)]
    cases decide (S[i] = b) <;> rfl
  · intro _
    unfold m_ref09_has_L0
    simp only [hl, lt_cast, Nat.lt_irrefl, decide_false, ifB_false]
structure FI (p : TProto) (a0 : Nat) (S T : List Nat) (D : Nat → Nat → Nat → Prop) : Prop where
  nd : T.Nodup
  rg : ∀ x ∈ T, x < p.f1.length
  nf : ∀ x ∈ T, finB p x = false
  back : ∀ x ∈ T, Reach p x → Reach p a0
  pre : ∃ U, T = S ++ U
  done : ∀ a k l, D a k l → ∀ i j, S[a]? = some i → Edge p k l i j → j ∈ T
theorem FI.len {p : TProto} {a0 : Nat} {S T : List Nat} {D : Nat → Nat → Nat → Prop} (h : FI p a0 S T D) (hn : p.f1.length ≤ 16) : T.length ≤ 16 := by
  have := pigeon _ T h.nd h.rg
  omega
theorem FI.weak {p : TProto} {a0 : Nat} {S T : List Nat} {D D' : Nat → Nat → Nat → Prop} (h : FI p a0 S T D) (hd : ∀ a k l, D' a k l → ∀ i j, S[a]? = some i → Edge p k l i j → j ∈ T ∨ D a k l) : FI p a0 S T D' :=
  ⟨h.nd, h.rg, h.nf, h.back, h.pre, fun a k l hD i j hs he => by
    rcases hd a k l hD i j hs he with h1 | h1
    · exact h1
    · exact h.done a k l h1 i j hs he⟩
theorem Ends_L3 {p : TProto} (hf : Fits p) (hn : p.f1.length ≤ 16) {a0 x a k : Nat} {S T : List Nat} {m : TMove} (hm : p.f2[k]? = some m) (ho : m.f2.length ≤ 80) (hx : S[a]? = some x) (hxm : m.f1 = (x : Int)) (h : FI p a0 S T fun a' k' l' => a' < a ∨ (a' = a ∧ k' < k)) :
    ∃ r, loopO (m_ref09_Ends_L3 m p) (cst T, 0) = some r ∧ ((∃ T', r = .inl (cst T') ∧ FI p a0 S T' fun a' k' l' => a' < a ∨ (a' = a ∧ k' < k + 1)) ∨ (r = .inr true ∧ Reach p a0)) := by
  refine loopO_count m.f2.length (fun l st => st.2 = (l : Int) ∧ ∃ T', st.1 = cst T' ∧ FI p a0 S T' fun a' k' l' => a' < a ∨ (a' = a ∧ (k' < k ∨ (k' = k ∧ l' < l)))) _ ?_ ?_ ⟨rfl, T, rfl, h.weak fun a' k' l' hd _ _ _ _ => .inr (by rcases hd with hd | hd <;> omega)⟩
  · rintro l ⟨v, w⟩ hl ⟨rfl, T', rfl, hi⟩
    obtain ⟨_, hto⟩ := hf k m hm
    obtain ⟨b, hb, hbn⟩ := hto l m.f2[l] (List.getElem?_eq_getElem hl)
    have hedge : Edge p k l x b := ⟨m, m.f2[l], hm, List.getElem?_eq_getElem hl, hxm, hb⟩
    have huniq : ∀ i j, Edge p k l i j → j = b := by
      rintro i j ⟨m', o', h1, h2, h3, h4⟩
      rw [hm] at h1; cases h1
      rw [List.getElem?_eq_getElem hl] at h2; cases h2
      rw [hb] at h4
      omega
    have hxT : x ∈ T' := by
      obtain ⟨U, hU⟩ := hi.pre
      rw [hU]
      exact List.mem_append_left _ (List.mem_of_getElem? hx)
    have hlen := hi.len hn
    have hfb : finB p b = (p.f1[b]).f1 := by unfold finB; rw [List.getElem?_eq_getElem hbn]
    unfold m_ref09_Ends_L3
    simp only [lt_cast, decide_eq_true hl, ifB_true, gi_of hl, some_bind', hb, gi_of hbn, has_ref (show T'.length ≤ 1000 by omega)]
    rw [wrap_succ (by omega)]
    cases hq : (p.f1[b]).f1 with
    | true =>
      right
      exact ⟨_, rfl, .inr ⟨rfl, hi.back x hxT (.step hedge (.fin (by rw [hfb, hq])))⟩⟩
    | false =>
      left
      simp only [ifB_false]
      by_cases hbT : b ∈ T'
      · rw [decide_eq_true hbT]
        refine ⟨_, rfl, rfl, T', rfl, hi.weak fun a' k' l' hd i j hs he => ?_⟩
        by_cases e : a' = a ∧ k' = k ∧ l' = l
        · obtain ⟨rfl, rfl, rfl⟩ := e
          left; rw [huniq i j he]; exact hbT
        · right; omega
      · rw [decide_eq_false hbT]
        simp only [Bool.not_false, ifB_true, List.length_nil, List.length_map, List.nil_append, Nat.zero_add]
        rw [rq_true (decide_eq_true (show T'.length ≤ 1000000 by omega))]
        simp only [some_bind']
        rw [rq_true (decide_eq_true (show T'.length + [(b : Int)].length ≤ 1000000 by simp; omega))]
        simp only [some_bind']
        refine ⟨_, rfl, rfl, T' ++ [b], by simp, ?_, ?_, ?_, ?_, ?_, ?_⟩
        · exact List.nodup_append.2 ⟨hi.nd, by simp, fun y hy z hz => by rw [List.mem_singleton.1 hz]; exact fun e => hbT (e ▸ hy)⟩
        · intro y hy
          rcases List.mem_append.1 hy with hy | hy
          · exact hi.rg y hy
          · rw [List.mem_singleton.1 hy]; exact hbn
        · intro y hy
          rcases List.mem_append.1 hy with hy | hy
          · exact hi.nf y hy
          · rw [List.mem_singleton.1 hy, hfb, hq]
        · intro y hy hr
          rcases List.mem_append.1 hy with hy | hy
          · exact hi.back y hy hr
          · rw [List.mem_singleton.1 hy] at hr
            exact hi.back x hxT (.step hedge hr)
        · obtain ⟨U, hU⟩ := hi.pre
          exact ⟨U ++ [b], by rw [hU, List.append_assoc]⟩
        · intro a' k' l' hd i j hs he
          by_cases e : a' = a ∧ k' = k ∧ l' = l
          · obtain ⟨rfl, rfl, rfl⟩ := e
            rw [huniq i j he]; simp
          · exact List.mem_append_left _ (hi.done a' k' l' (by omega) i j hs he)
  · rintro ⟨v, w⟩ ⟨rfl, T', rfl, hi⟩
    unfold m_ref09_Ends_L3
    simp only [lt_cast, Nat.lt_irrefl, decide_false, ifB_false]
    refine ⟨_, rfl, .inl ⟨T', rfl, hi.weak fun a' k' l' hd i j hs he => ?_⟩⟩
    right
    obtain ⟨m', o', h1, h2, _⟩ := he
    by_cases e : k' = k
    · subst e
      rw [hm] at h1; cases h1
      have := (List.getElem?_eq_some_iff.1 h2).1
      omega
    · omega
open Classical in
noncomputable def reachB (p : TProto) (i : Nat) : Bool := decide (Reach p i)
theorem reachB_tt {p : TProto} {i : Nat} (h : Reach p i) : reachB p i = true := @decide_eq_true _ (Classical.propDecidable _) h
theorem reachB_ff {p : TProto} {i : Nat} (h : ¬ Reach p i) : reachB p i = false := @decide_eq_false _ (Classical.propDecidable _) h
theorem cst_get {S : List Nat} {a x : Nat} (h : S[a]? = some x) : gi (cst S) (a : Int) = some (x : Int) := by
  rw [gi_nat]; simp [h]
theorem Ends_L2 {p : TProto} (hf : Fits p) (hn : p.f1.length ≤ 16) (sm : Sm p) {a0 x a : Nat} {S T : List Nat} (hx : S[a]? = some x) (h : FI p a0 S T fun a' _ _ => a' < a) :
    ∃ r, loopO (m_ref09_Ends_L2 p (cst S) (a : Int)) (cst T, 0) = some r ∧ ((∃ T', r = .inl (cst T') ∧ FI p a0 S T' fun a' _ _ => a' < a + 1) ∨ (r = .inr true ∧ Reach p a0)) := by
  have hb := sm.b
  refine loopO_count p.f2.length (fun k st => st.2 = (k : Int) ∧ ∃ T', st.1 = cst T' ∧ FI p a0 S T' fun a' k' _ => a' < a ∨ (a' = a ∧ k' < k)) _ ?_ ?_ ⟨rfl, T, rfl, h.weak fun a' k' l' hd _ _ _ _ => .inr (by omega)⟩
  · rintro k ⟨v, w⟩ hk ⟨rfl, T', rfl, hi⟩
    have hm := List.getElem?_eq_getElem hk
    unfold m_ref09_Ends_L2
    simp only [lt_cast, decide_eq_true hk, ifB_true, gi_of hk, some_bind', cst_get hx]
    rw [wrap_succ (by omega)]
    by_cases e : (p.f2[k]).f1 = (x : Int)
    · rw [decide_eq_true e]
      simp only [Bool.not_true, ifB_false]
      obtain ⟨r, hr, ⟨T2, rfl, h2⟩ | ⟨rfl, h2⟩⟩ := Ends_L3 hf hn hm (sm.c k hk) hx e hi
      · left
        rw [hr]
        exact ⟨_, rfl, rfl, T2, rfl, h2⟩
      · right
        rw [hr]
        exact ⟨_, rfl, .inr ⟨rfl, h2⟩⟩
    · rw [decide_eq_false e]
      left
      refine ⟨_, rfl, rfl, T', rfl, hi.weak fun a' k' l' hd i j hs he => ?_⟩
      right
      by_cases e2 : a' = a ∧ k' = k
      · obtain ⟨rfl, rfl⟩ := e2
        rw [hx] at hs; cases hs
        obtain ⟨m', o', h1, _, h3, _⟩ := he
        rw [hm] at h1; cases h1
        exact absurd h3 e
      · omega
  · rintro ⟨v, w⟩ ⟨rfl, T', rfl, hi⟩
    unfold m_ref09_Ends_L2
    simp only [lt_cast, Nat.lt_irrefl, decide_false, ifB_false]
    refine ⟨_, rfl, .inl ⟨T', rfl, hi.weak fun a' k' l' hd i j hs he => ?_⟩⟩
    right
    obtain ⟨m', o', h1, _⟩ := he
    have := (List.getElem?_eq_some_iff.1 h1).1
    omega
theorem Ends_L1 {p : TProto} (hf : Fits p) (hn : p.f1.length ≤ 16) (sm : Sm p) {a0 : Nat} {S : List Nat} (h : FI p a0 S S fun _ _ _ => False) :
    ∃ r, loopO (m_ref09_Ends_L1 (cst S) p) (cst S, 0) = some r ∧ ((∃ T', r = .inl (cst T') ∧ FI p a0 S T' fun _ _ _ => True) ∨ (r = .inr true ∧ Reach p a0)) := by
  have hl := h.len hn
  have hcl : (cst S).length = S.length := by simp
  refine loopO_count S.length (fun a st => st.2 = (a : Int) ∧ ∃ T', st.1 = cst T' ∧ FI p a0 S T' fun a' _ _ => a' < a) _ ?_ ?_ ⟨rfl, S, rfl, h.weak fun a' k' l' hd _ _ _ _ => .inr (by omega)⟩
  · rintro a ⟨v, w⟩ ha ⟨rfl, T', rfl, hi⟩
    unfold m_ref09_Ends_L1
    simp only [hcl, lt_cast, decide_eq_true ha, ifB_true]
    rw [wrap_succ (by omega)]
    obtain ⟨r, hr, ⟨T2, rfl, h2⟩ | ⟨rfl, h2⟩⟩ := Ends_L2 hf hn sm (List.getElem?_eq_getElem ha) hi
    · left
      rw [hr]
      exact ⟨_, rfl, rfl, T2, rfl, h2⟩
    · right
      rw [hr]
      exact ⟨_, rfl, .inr ⟨rfl, h2⟩⟩
  · rintro ⟨v, w⟩ ⟨rfl, T', rfl, hi⟩
    unfold m_ref09_Ends_L1
    simp only [hcl, lt_cast, Nat.lt_irrefl, decide_false, ifB_false]
    refine ⟨_, rfl, .inl ⟨T', rfl, hi.weak fun a' k' l' hd i j hs he => ?_⟩⟩
    right
    exact (List.getElem?_eq_some_iff.1 hs).1
/-- A row that no outcome leads out of, and that holds no final state: nothing in it reaches. -/
theorem stuck_of {p : TProto} {S : List Nat} (hf : Fits p) (hnf : ∀ x ∈ S, finB p x = false) (hc : ∀ i j k l, i ∈ S → Edge p k l i j → j ∈ S) {i : Nat} (hr : Reach p i) : i ∉ S := by
  induction hr with
  | fin h => intro hi; rw [hnf _ hi] at h; cases h
  | step he _ ih => intro hi; exact ih (hc _ _ _ _ hi he)
theorem Ends_ref {p : TProto} (hf : Fits p) (hn : p.f1.length ≤ 16) (sm : Sm p) {i : Nat} (hi : i < p.f1.length) : m_ref09_Ends p (i : Int) (p.f1.length : Int) = some (reachB p i) := by
  unfold m_ref09_Ends
  rw [gi_of hi]
  simp only [some_bind']
  have hfi : finB p i = (p.f1[i]).f1 := by unfold finB; rw [List.getElem?_eq_getElem hi]
  cases hq : (p.f1[i]).f1 with
  | true =>
    rw [ifB_true]
    rw [reachB_tt (Reach.fin (by rw [hfi, hq]))]
  | false =>
    rw [ifB_false, decide_eq_false (by omega), ifB_false]
    have key : ∃ r, loopO (m_ref09_Ends_L0 (p.f1.length : Int) p) ([(i : Int)], 0) = some r ∧ ((r = .inl () ∧ ¬ Reach p i) ∨ (r = .inr true ∧ Reach p i)) := by
      refine loopO_count p.f1.length (fun k st => st.2 = (k : Int) ∧ ∃ S, st.1 = cst S ∧ i ∈ S ∧ FI p i S S (fun _ _ _ => False) ∧ (k + 1 ≤ S.length ∨ ¬ Reach p i)) _ ?_ ?_
        ⟨rfl, [i], rfl, by simp, ⟨by simp, fun x hx => by rw [List.mem_singleton.1 hx]; exact hi, fun x hx => by rw [List.mem_singleton.1 hx, hfi, hq], fun x hx h => by rw [List.mem_singleton.1 hx] at h; exact h, ⟨[], by simp⟩, fun _ _ _ h => h.elim⟩, .inl (by simp)⟩
      · rintro k ⟨v, w⟩ hk ⟨rfl, S, rfl, hiS, hS, hor⟩
        unfold m_ref09_Ends_L0
        simp only [lt_cast, decide_eq_true hk, ifB_true]
        rw [wrap_succ (by omega)]
        obtain ⟨r, hr, ⟨T, rfl, h2⟩ | ⟨rfl, h2⟩⟩ := Ends_L1 hf hn sm hS
        · left
          rw [hr]
          obtain ⟨U, hU⟩ := h2.pre
          have hdone : ∀ i j k l, i ∈ S → Edge p k l i j → j ∈ T := fun i j k l hi he => by
            obtain ⟨a, ha, hae⟩ := List.getElem_of_mem hi
            exact h2.done a k l trivial i j (by rw [List.getElem?_eq_getElem ha, hae]) he
          refine ⟨_, rfl, rfl, T, rfl, by rw [hU]; exact List.mem_append_left _ hiS, ⟨h2.nd, h2.rg, h2.nf, h2.back, ⟨[], by simp⟩, fun _ _ _ h => h.elim⟩, ?_⟩
          cases U with
          | nil =>
            rw [List.append_nil] at hU
            right
            rw [hU] at hdone
            exact fun hr => stuck_of hf (by rw [← hU]; exact h2.nf) hdone hr hiS
          | cons u us =>
            rcases hor with ho | ho
            · left
              rw [hU, List.length_append, List.length_cons]
              omega
            · exact .inr ho
        · right
          rw [hr]
          exact ⟨_, rfl, .inr ⟨rfl, h2⟩⟩
      · rintro ⟨v, w⟩ ⟨rfl, S, rfl, hiS, hS, hor⟩
        unfold m_ref09_Ends_L0
        simp only [lt_cast, Nat.lt_irrefl, decide_false, ifB_false]
        refine ⟨_, rfl, .inl ⟨rfl, ?_⟩⟩
        rcases hor with ho | ho
        · have := pigeon _ S hS.nd hS.rg
          omega
        · exact ho
    obtain ⟨r, hr, ⟨rfl, h2⟩ | ⟨rfl, h2⟩⟩ := key
    · rw [hr]
      rw [reachB_ff h2]; rfl
    · rw [hr]
      rw [reachB_tt h2]; rfl
def fitS (p : TProto) (m : TMove) : Bool := match fst m.f2.length (badOut p m) with | some _ => false | none => inB p m.f1 && decide (0 < (m.f2.length : Int))
def unfitK (p : TProto) (k : Nat) : Bool := match p.f2[k]? with | some m => !fitS p m | none => false
def againK (p : TProto) (k : Nat) : Bool := match p.f2[k]? with | some m => againM p m k | none => false
def endK (p : TProto) (k : Nat) : Bool := match p.f2[k]? with | some m => finB p m.f1.toNat | none => false
noncomputable def W (p : TProto) : Int × Int :=
  if p.f1.length < 1 ∨ 16 < p.f1.length then (1, 0) else
  match fst p.f1.length (dup p.f1.length (nmS p)) with
  | some i => (1, (i : Int))
  | none => match fst p.f2.length (unfitK p) with
    | some i => (2, (i : Int))
    | none => match fst p.f2.length (againK p) with
      | some i => (3, (i : Int))
      | none => match fst p.f2.length (endK p) with
        | some i => (4, (i : Int))
        | none => match fst p.f1.length (fun i => !reachB p i) with
          | some i => (5, (i : Int))
          | none => (0, 0)
theorem inB_nat {p : TProto} {x : Int} (h : inB p x = true) : ∃ i : Nat, x = (i : Int) ∧ i < p.f1.length := by
  unfold inB at h
  rw [Bool.and_eq_true] at h
  have h1 := of_decide_eq_true h.1
  have h2 := of_decide_eq_true h.2
  exact ⟨x.toNat, by omega, by omega⟩
theorem fits_of {p : TProto} (h : fst p.f2.length (unfitK p) = none) : Fits p := by
  rw [fst_none] at h
  intro k m hm
  have hk := (List.getElem?_eq_some_iff.1 hm).1
  have h1 := h k hk
  unfold unfitK at h1
  rw [hm] at h1
  have h2 : fitS p m = true := by simpa using h1
  unfold fitS at h2
  cases hq : fst m.f2.length (badOut p m) with
  | some i => rw [hq] at h2; cases h2
  | none =>
    rw [hq, Bool.and_eq_true] at h2
    refine ⟨inB_nat h2.1, fun l o ho => ?_⟩
    rw [fst_none] at hq
    obtain ⟨hl, he⟩ := List.getElem?_eq_some_iff.1 ho
    have h3 := hq l hl
    rw [badOut_of hl, he] at h3
    exact inB_nat (by simpa using h3)
theorem wrong_auto {p : TProto} (sm : Sm p) : m_auto_Wrong p = some (W p) := by
  have hb := sm.b
  unfold m_auto_Wrong W
  rw [states_auto sm.a]
  simp only [some_bind']
  by_cases hc : p.f1.length < 1 ∨ 16 < p.f1.length
  · rw [if_pos hc, if_pos hc]; rfl
  · rw [if_neg hc, if_neg hc]
    have hn : p.f1.length ≤ 16 := by omega
    cases hd : fst p.f1.length (dup p.f1.length (nmS p)) with
    | some i =>
      dsimp only
      rw [decide_eq_true (show (0 : Int) ≤ (i : Int) from Int.natCast_nonneg i), ifB_true]
    | none =>
      dsimp only
      rw [decide_eq_false (show ¬ (0 : Int) ≤ -1 by decide), ifB_false]
      rw [show ((0 : Int)) = ((0 : Nat) : Int) from rfl, loopO_first (b := m_auto_Wrong_L0 p) (fun i : Nat => (i : Int)) p.f2.length (unfitK p) (fun i => (2, (i : Int))) () ?_ ?_]
      · cases hu : fst p.f2.length (unfitK p) with
        | some i => rfl
        | none =>
          have hf := fits_of hu
          simp only [some_bind']
          rw [loopO_first (b := m_auto_Wrong_L1 p) (fun i : Nat => (i : Int)) p.f2.length (againK p) (fun i => (3, (i : Int))) () ?_ ?_]
          · cases hg : fst p.f2.length (againK p) with
            | some i => rfl
            | none =>
              simp only [some_bind']
              rw [loopO_first (b := m_auto_Wrong_L2 p) (fun i : Nat => (i : Int)) p.f2.length (endK p) (fun i => (4, (i : Int))) () ?_ ?_]
              · cases he : fst p.f2.length (endK p) with
                | some i => rfl
                | none =>
                  simp only [some_bind']
                  obtain ⟨s, hs, hlt, hbit⟩ := ends_auto hf hn sm
                  rw [hs]
                  simp only [some_bind']
                  rw [loopO_first (b := m_auto_Wrong_L3 p (s : Int)) (fun i : Nat => (i : Int)) p.f1.length (fun i => !reachB p i) (fun i => (5, (i : Int))) () ?_ ?_]
                  · cases fst p.f1.length (fun i => !reachB p i) <;> rfl
                  · intro i hi _
                    unfold m_auto_Wrong_L3
                    simp only [lt_cast, decide_eq_true hi, ifB_true]
                    rw [rq_true (decide_eq_true (by omega)), wrap_succ (by omega), and_bit hlt (by omega)]
                    simp only [some_bind']
                    cases hr : s.testBit i with
                    | true => rw [reachB_tt ((hbit i).1 hr)]; rfl
                    | false => rw [reachB_ff (fun h => by rw [(hbit i).2 h] at hr; cases hr)]; rfl
                  · intro _
                    unfold m_auto_Wrong_L3
                    simp only [lt_cast, Nat.lt_irrefl, decide_false, ifB_false]
              · intro k hk _
                obtain ⟨⟨i, hi, hin⟩, _⟩ := hf k p.f2[k] (List.getElem?_eq_getElem hk)
                unfold m_auto_Wrong_L2 endK
                simp only [lt_cast, decide_eq_true hk, ifB_true, gi_of hk, some_bind', hi, gi_of hin, List.getElem?_eq_getElem hk, Int.toNat_natCast, finB, List.getElem?_eq_getElem hin]
                rw [wrap_succ (by omega)]
                cases (p.f1[i]).f1 <;> rfl
              · intro _
                unfold m_auto_Wrong_L2
                simp only [lt_cast, Nat.lt_irrefl, decide_false, ifB_false]
          · intro k hk _
            unfold m_auto_Wrong_L1 againK
            simp only [lt_cast, decide_eq_true hk, ifB_true, once_auto hk hb (sm.c k hk), some_bind', List.getElem?_eq_getElem hk]
            rw [wrap_succ (by omega)]
            cases againM p p.f2[k] k <;> rfl
          · intro _
            unfold m_auto_Wrong_L1
            simp only [lt_cast, Nat.lt_irrefl, decide_false, ifB_false]
      · intro k hk _
        unfold m_auto_Wrong_L0 unfitK
        simp only [lt_cast, decide_eq_true hk, ifB_true, gi_of hk, some_bind', move_auto (sm.c k hk), fit_ref (sm.c k hk), List.getElem?_eq_getElem hk]
        rw [wrap_succ (by omega)]
        show ifB (!fitS p p.f2[k]) _ _ = _
        cases fitS p p.f2[k] <;> rfl
      · intro _
        unfold m_auto_Wrong_L0
        simp only [lt_cast, Nat.lt_irrefl, decide_false, ifB_false]
theorem ref_L3_2 {p : TProto} (sm : Sm p) : loopO (m_ref09_Wrong_L3 p 2) 0 = some (match fst p.f2.length (unfitK p) with | some i => .inr (2, (i : Int)) | none => .inl ()) := by
  have hb := sm.b
  rw [show ((0 : Int)) = ((0 : Nat) : Int) from rfl, loopO_first (b := m_ref09_Wrong_L3 p 2) (fun i : Nat => (i : Int)) p.f2.length (unfitK p) (fun i => (2, (i : Int))) () ?_ ?_]
  · rfl
  · intro k hk _
    unfold m_ref09_Wrong_L3 unfitK
    simp only [lt_cast, decide_eq_true hk, ifB_true, gi_of hk, some_bind', fit_ref (sm.c k hk), List.getElem?_eq_getElem hk, show decide ((2 : Int) = 2) = true from rfl, show decide ((2 : Int) = 3) = false from rfl, show decide ((2 : Int) = 4) = false from rfl, ifB_false]
    rw [wrap_succ (by omega)]
    show Option.bind (ifB (!fitS p p.f2[k]) _ _) _ = _
    cases fitS p p.f2[k] <;> rfl
  · intro _
    unfold m_ref09_Wrong_L3
    simp only [lt_cast, Nat.lt_irrefl, decide_false, ifB_false]
theorem ref_L3_3 {p : TProto} (sm : Sm p) : loopO (m_ref09_Wrong_L3 p 3) 0 = some (match fst p.f2.length (againK p) with | some i => .inr (3, (i : Int)) | none => .inl ()) := by
  have hb := sm.b
  rw [show ((0 : Int)) = ((0 : Nat) : Int) from rfl, loopO_first (b := m_ref09_Wrong_L3 p 3) (fun i : Nat => (i : Int)) p.f2.length (againK p) (fun i => (3, (i : Int))) () ?_ ?_]
  · rfl
  · intro k hk _
    unfold m_ref09_Wrong_L3 againK
    simp only [lt_cast, decide_eq_true hk, ifB_true, gi_of hk, some_bind', again_ref hk hb (sm.c k hk), List.getElem?_eq_getElem hk, show decide ((3 : Int) = 2) = false from rfl, show decide ((3 : Int) = 3) = true from rfl, show decide ((3 : Int) = 4) = false from rfl, ifB_false]
    rw [wrap_succ (by omega)]
    cases againM p p.f2[k] k <;> rfl
  · intro _
    unfold m_ref09_Wrong_L3
    simp only [lt_cast, Nat.lt_irrefl, decide_false, ifB_false]
theorem ref_L3_4 {p : TProto} (sm : Sm p) (hf : Fits p) : loopO (m_ref09_Wrong_L3 p 4) 0 = some (match fst p.f2.length (endK p) with | some i => .inr (4, (i : Int)) | none => .inl ()) := by
  have hb := sm.b
  rw [show ((0 : Int)) = ((0 : Nat) : Int) from rfl, loopO_first (b := m_ref09_Wrong_L3 p 4) (fun i : Nat => (i : Int)) p.f2.length (endK p) (fun i => (4, (i : Int))) () ?_ ?_]
  · rfl
  · intro k hk _
    obtain ⟨⟨i, hi, hin⟩, _⟩ := hf k p.f2[k] (List.getElem?_eq_getElem hk)
    unfold m_ref09_Wrong_L3 endK
    simp only [lt_cast, decide_eq_true hk, ifB_true, gi_of hk, some_bind', List.getElem?_eq_getElem hk, show decide ((4 : Int) = 2) = false from rfl, show decide ((4 : Int) = 3) = false from rfl, show decide ((4 : Int) = 4) = true from rfl, ifB_false, hi, gi_of hin, Int.toNat_natCast, finB, List.getElem?_eq_getElem hin]
    rw [wrap_succ (by omega)]
    cases (p.f1[i]).f1 <;> rfl
  · intro _
    unfold m_ref09_Wrong_L3
    simp only [lt_cast, Nat.lt_irrefl, decide_false, ifB_false]
theorem ref_L0 {p : TProto} (sm : Sm p) : loopO (m_ref09_Wrong_L0 p) 0 = some (match fst p.f1.length (dup p.f1.length (nmS p)) with | some i => .inr (1, (i : Int)) | none => .inl ()) := by
  have ha := sm.a
  rw [show ((0 : Int)) = ((0 : Nat) : Int) from rfl, loopO_first (b := m_ref09_Wrong_L0 p) (fun i : Nat => (i : Int)) p.f1.length (dup p.f1.length (nmS p)) (fun i => (1, (i : Int))) () ?_ ?_]
  · rfl
  · intro i hi _
    unfold m_ref09_Wrong_L0
    simp only [lt_cast, decide_eq_true hi, ifB_true]
    rw [show ((0 : Int)) = ((0 : Nat) : Int) from rfl, loopO_first (b := m_ref09_Wrong_L1 (i : Int) p) (fun i : Nat => (i : Int)) i (fun k => decide (nmS p k = nmS p i)) (fun _ => (1, (i : Int))) () ?_ ?_]
    · unfold dup
      rw [wrap_succ (by omega)]
      cases fst i (fun k => decide (nmS p k = nmS p i)) <;> rfl
    · intro k hk _
      have hk' : k < p.f1.length := by omega
      unfold m_ref09_Wrong_L1
      simp only [lt_cast, decide_eq_true hk, ifB_true, gi_of hi, gi_of hk', some_bind', nmS, List.getElem?_eq_getElem hi, List.getElem?_eq_getElem hk']
      rw [wrap_succ (by omega), show decide ((p.f1[i]).f0 = (p.f1[k]).f0) = decide ((p.f1[k]).f0 = (p.f1[i]).f0) from decide_eq_decide.2 ⟨Eq.symm, Eq.symm⟩]
      cases decide ((p.f1[k]).f0 = (p.f1[i]).f0) <;> rfl
    · intro _
      unfold m_ref09_Wrong_L1
      simp only [lt_cast, Nat.lt_irrefl, decide_false, ifB_false]
  · intro _
    unfold m_ref09_Wrong_L0
    simp only [lt_cast, Nat.lt_irrefl, decide_false, ifB_false]
theorem ref_L4 {p : TProto} (sm : Sm p) (hf : Fits p) (hn : p.f1.length ≤ 16) : loopO (m_ref09_Wrong_L4 p) 0 = some (match fst p.f1.length (fun i => !reachB p i) with | some i => .inr (5, (i : Int)) | none => .inl ()) := by
  rw [show ((0 : Int)) = ((0 : Nat) : Int) from rfl, loopO_first (b := m_ref09_Wrong_L4 p) (fun i : Nat => (i : Int)) p.f1.length (fun i => !reachB p i) (fun i => (5, (i : Int))) () ?_ ?_]
  · rfl
  · intro i hi _
    unfold m_ref09_Wrong_L4
    simp only [lt_cast, decide_eq_true hi, ifB_true, Ends_ref hf hn sm hi, some_bind']
    rw [wrap_succ (by omega)]
    cases reachB p i <;> rfl
  · intro _
    unfold m_ref09_Wrong_L4
    simp only [lt_cast, Nat.lt_irrefl, decide_false, ifB_false]
theorem wrong_ref {p : TProto} (sm : Sm p) : m_ref09_Wrong p = some (W p) := by
  unfold m_ref09_Wrong W
  by_cases hc : p.f1.length < 1 ∨ 16 < p.f1.length
  · rw [if_pos hc]
    by_cases h1 : p.f1.length < 1
    · rw [decide_eq_true (show (p.f1.length : Int) < 1 by omega)]; rfl
    · rw [decide_eq_false (show ¬ (p.f1.length : Int) < 1 by omega), decide_eq_true (show 16 < (p.f1.length : Int) by omega)]; rfl
  · rw [if_neg hc, decide_eq_false (show ¬ (p.f1.length : Int) < 1 by omega), decide_eq_false (show ¬ 16 < (p.f1.length : Int) by omega)]
    simp only [ifB_false, some_bind']
    rw [ref_L0 sm]
    cases hd : fst p.f1.length (dup p.f1.length (nmS p)) with
    | some i => rfl
    | none =>
      simp only [some_bind']
      have e : loopO (m_ref09_Wrong_L2 p) 2 = some (match fst p.f2.length (unfitK p) with | some i => .inr (2, (i : Int)) | none => match fst p.f2.length (againK p) with | some i => .inr (3, (i : Int)) | none => match fst p.f2.length (endK p) with | some i => .inr (4, (i : Int)) | none => .inl ()) := by
        cases hu : fst p.f2.length (unfitK p) with
        | some i => exact loopO_inr (by unfold m_ref09_Wrong_L2; dsimp only; rw [ref_L3_2 sm, hu]; rfl)
        | none =>
          rw [loopO_inl (s' := 3) (by unfold m_ref09_Wrong_L2; dsimp only; rw [ref_L3_2 sm, hu]; rfl)]
          cases hg : fst p.f2.length (againK p) with
          | some i => exact loopO_inr (by unfold m_ref09_Wrong_L2; dsimp only; rw [ref_L3_3 sm, hg]; rfl)
          | none =>
            rw [loopO_inl (s' := 4) (by unfold m_ref09_Wrong_L2; dsimp only; rw [ref_L3_3 sm, hg]; rfl)]
            cases he : fst p.f2.length (endK p) with
            | some i => exact loopO_inr (by unfold m_ref09_Wrong_L2; dsimp only; rw [ref_L3_4 sm (fits_of hu), he]; rfl)
            | none =>
              rw [loopO_inl (s' := 5) (by unfold m_ref09_Wrong_L2; dsimp only; rw [ref_L3_4 sm (fits_of hu), he]; rfl)]
              exact loopO_inr rfl
      rw [e]
      cases hu : fst p.f2.length (unfitK p) with
      | some i => rfl
      | none =>
        cases hg : fst p.f2.length (againK p) with
        | some i => rfl
        | none =>
          cases he : fst p.f2.length (endK p) with
          | some i => rfl
          | none =>
            simp only [some_bind']
            rw [ref_L4 sm (fits_of hu) (by omega)]
            cases fst p.f1.length (fun i => !reachB p i) <;> rfl
theorem clone_out {l : List TOut} (h : l.length ≤ 80) : m_slices_Clone_api_Out l = some l := by
  unfold m_slices_Clone_api_Out; rw [rq_true (decide_eq_true (by omega))]; rfl
theorem clone_eq {p : TProto} (sm : Sm p) : m_auto_clone p = some p := by
  have ha := sm.a
  have hb := sm.b
  unfold m_auto_clone m_slices_Clone_api_State m_slices_Clone_api_Move
  rw [rq_true (decide_eq_true (show p.f1.length ≤ 1000000 by omega)), rq_true (decide_eq_true (show p.f2.length ≤ 1000000 by omega))]
  simp only [some_bind']
  have key : ∃ r, loopO (m_auto_clone_L0 p.f2) (0, p.f2) = some r ∧ r = p.f2 := by
    refine loopO_count p.f2.length (fun i st => st.1 = (i : Int) ∧ st.2 = p.f2) _ ?_ ?_ ⟨rfl, rfl⟩
    · rintro i ⟨v, w⟩ hi ⟨rfl, rfl⟩
      left
      unfold m_auto_clone_L0
      simp only [lt_cast, decide_eq_true hi, ifB_true, gi_of hi, some_bind', clone_out (sm.c i hi)]
      rw [rq_true (decide_eq_true (by omega)), wrap_succ (by omega)]
      simp only [some_bind', rq, Int.toNat_natCast]
      exact ⟨_, rfl, rfl, by show p.f2.set i p.f2[i] = p.f2; exact List.set_getElem_self hi⟩
    · rintro ⟨v, w⟩ ⟨rfl, rfl⟩
      unfold m_auto_clone_L0
      simp only [lt_cast, Nat.lt_irrefl, decide_false, ifB_false]
      exact ⟨_, rfl, rfl⟩
  obtain ⟨r, hr, rfl⟩ := key
  rw [hr]
  rfl
theorem new_auto {p : TProto} (sm : Sm p) : m_auto_New p = some (if (W p).1 = 0 then (some ⟨p⟩, 0) else (none, 2)) := by
  unfold m_auto_New
  rw [wrong_auto sm]
  simp only [some_bind']
  by_cases h : (W p).1 = 0
  · rw [decide_eq_true h, if_pos h]
    simp only [Bool.not_true, ifB_false, clone_eq sm, some_bind']
  · rw [decide_eq_false h, if_neg h]; rfl
theorem same_self {l : List TOut} (h : l.length ≤ 80) : m_ref09_Same l l = some true := by
  unfold m_ref09_Same
  rw [decide_eq_true rfl]
  simp only [Bool.not_true, ifB_false]
  rw [show ((0 : Int)) = ((0 : Nat) : Int) from rfl, loopO_first (b := m_ref09_Same_L0 l l) (fun i : Nat => (i : Int)) l.length (fun _ => false) (fun _ => false) () ?_ ?_]
  · rw [show fst l.length (fun _ => false) = none from fst_none.2 fun _ _ => rfl]; rfl
  · intro i hi _
    unfold m_ref09_Same_L0
    simp only [lt_cast, decide_eq_true hi, ifB_true, gi_of hi, some_bind']
    rw [wrap_succ (by omega), show eqTOut l[i] l[i] = true from by simp [eqTOut]]
    rfl
  · intro _
    unfold m_ref09_Same_L0
    simp only [lt_cast, Nat.lt_irrefl, decide_false, ifB_false]
theorem like_self {p : TProto} (sm : Sm p) : m_ref09_Like p p = some true := by
  have ha := sm.a
  have hb := sm.b
  unfold m_ref09_Like
  rw [decide_eq_true rfl, decide_eq_true rfl, decide_eq_true rfl]
  simp only [Bool.not_true, ifB_false, some_bind']
  rw [show ((0 : Int)) = ((0 : Nat) : Int) from rfl, loopO_first (b := m_ref09_Like_L0 p p) (fun i : Nat => (i : Int)) p.f1.length (fun _ => false) (fun _ => false) () ?_ ?_]
  · rw [show fst p.f1.length (fun _ => false) = none from fst_none.2 fun _ _ => rfl]
    simp only [some_bind']
    rw [loopO_first (b := m_ref09_Like_L1 p p) (fun i : Nat => (i : Int)) p.f2.length (fun _ => false) (fun _ => false) () ?_ ?_]
    · rw [show fst p.f2.length (fun _ => false) = none from fst_none.2 fun _ _ => rfl]; rfl
    · intro i hi _
      unfold m_ref09_Like_L1
      simp only [lt_cast, decide_eq_true hi, ifB_true, gi_of hi, some_bind', same_self (sm.c i hi)]
      rw [wrap_succ (by omega)]
      simp [ifB]
    · intro _
      unfold m_ref09_Like_L1
      simp only [lt_cast, Nat.lt_irrefl, decide_false, ifB_false]
  · intro i hi _
    unfold m_ref09_Like_L0
    simp only [lt_cast, decide_eq_true hi, ifB_true, gi_of hi, some_bind']
    rw [wrap_succ (by omega), show eqTState p.f1[i] p.f1[i] = true from by simp [eqTState]]
    rfl
  · intro _
    unfold m_ref09_Like_L0
    simp only [lt_cast, Nat.lt_irrefl, decide_false, ifB_false]
theorem small_ref {p : TProto} (h : okTProto p) : ∃ b, m_ref09_Small p = some b ∧ (b = true → Sm p) := by
  obtain ⟨_, ⟨h1, _⟩, ⟨h2, h3⟩, _⟩ := h
  have key : ∃ r, loopO (m_ref09_Small_L0 p) (IntKind.wrap .i64 ((p.f1.length : Int) + (p.f2.length : Int)), 0) = some r ∧ (r ≤ 80 → Sm p) := by
    refine loopO_count p.f2.length (fun i st => st.2 = (i : Int) ∧ ∃ c : Nat, st.1 = (c : Int) ∧ p.f1.length + p.f2.length ≤ c ∧ ∀ (j : Nat) (hj : j < p.f2.length), j < i → (p.f2[j]).f2.length ≤ c) _ ?_ ?_
      ⟨rfl, p.f1.length + p.f2.length, by rw [wrap_i64 (by omega) (by omega)]; simp, Nat.le_refl _, fun j _ hj => absurd hj (Nat.not_lt_zero _)⟩
    · rintro i ⟨v, w⟩ hi ⟨rfl, c, rfl, hc, hj⟩
      unfold m_ref09_Small_L0
      simp only [lt_cast, decide_eq_true hi, ifB_true, some_bind']
      by_cases h80 : (c : Int) ≤ 80
      · left
        have h4 := (h3 p.f2[i] (List.getElem_mem hi)).2.2.1.1
        rw [decide_eq_true h80]
        simp only [ifB_true, gi_of hi, some_bind']
        rw [wrap_succ (by omega), wrap_i64 (by omega) (by omega)]
        refine ⟨_, rfl, rfl, c + (p.f2[i]).f2.length, by simp, by omega, fun j hjl hji => ?_⟩
        by_cases e : j = i
        · subst e; omega
        · have := hj j hjl (by omega); omega
      · right
        rw [decide_eq_false h80]
        exact ⟨_, rfl, fun h => absurd h h80⟩
    · rintro ⟨v, w⟩ ⟨rfl, c, rfl, hc, hj⟩
      unfold m_ref09_Small_L0
      simp only [lt_cast, Nat.lt_irrefl, decide_false, ifB_false, some_bind']
      refine ⟨_, rfl, fun h => ⟨by omega, by omega, fun i hi => ?_⟩⟩
      have := hj i hi hi
      omega
  obtain ⟨r, hr, hq⟩ := key
  refine ⟨decide (r ≤ 80), ?_, fun h => hq (of_decide_eq_true h)⟩
  unfold m_ref09_Small
  rw [hr]
  rfl
theorem fst_zero {P : Nat → Bool} : fst 0 P = none := rfl
theorem fst_one_tt {P : Nat → Bool} (h : P 0 = true) : fst 1 P = some 0 := by
  unfold fst
  show (List.range' 0 1).find? P = _
  rw [find_range' (n := 1), h]; rfl
theorem fst_one_ff {P : Nat → Bool} (h : P 0 = false) : fst 1 P = none := by
  unfold fst
  show (List.range' 0 1).find? P = _
  rw [find_range' (n := 1), h]; rfl
theorem dup_zero {n : Nat} {nm : Nat → ByteArray} : dup n nm 0 = false := rfl
theorem sm_one (x : TState) : Sm (⟨ByteArray.empty, [x], []⟩ : TProto) := ⟨by simp, by simp, fun i hi => absurd hi (Nat.not_lt_zero _)⟩
theorem finB_one (x : TState) : finB (⟨ByteArray.empty, [x], []⟩ : TProto) 0 = x.f1 := rfl
theorem W_one (x : TState) : W (⟨ByteArray.empty, [x], []⟩ : TProto) = if x.f1 then (0, 0) else (5, 0) := by
  unfold W
  rw [if_neg (by simp)]
  have e1 : fst (⟨ByteArray.empty, [x], []⟩ : TProto).f1.length (dup (⟨ByteArray.empty, [x], []⟩ : TProto).f1.length (nmS (⟨ByteArray.empty, [x], []⟩ : TProto))) = none := fst_one_ff rfl
  rw [e1]
  dsimp only
  have e2 : ∀ P : Nat → Bool, fst ([] : List TMove).length P = none := fun _ => rfl
  rw [e2, e2, e2]
  dsimp only
  cases hx : x.f1 with
  | true =>
    have e3 : fst [x].length (fun i => !reachB (⟨ByteArray.empty, [x], []⟩ : TProto) i) = none := fst_one_ff (by rw [reachB_tt (.fin (by rw [finB_one, hx]))]; rfl)
    rw [e3]; rfl
  | false =>
    have e3 : fst [x].length (fun i => !reachB (⟨ByteArray.empty, [x], []⟩ : TProto) i) = some 0 := fst_one_tt (by
      rw [reachB_ff fun h => by
        cases h with
        | fin h => rw [finB_one, hx] at h; cases h
        | step he _ => obtain ⟨m, o, h1, _⟩ := he; simp at h1]
      rfl)
    rw [e3]; rfl
theorem awake_tt : m_law09_awake = some true := by
  unfold m_law09_awake
  rw [wrong_auto (sm_one _), new_auto (sm_one _), W_one, W_one]
  simp only [some_bind', if_neg (show ¬ (false = true) by decide), if_pos (show (true = true) from rfl), if_pos (show ((0 : Int), (0 : Int)).1 = 0 from rfl)]
  show Option.bind (m_auto_Auto_Finals (some (⟨(⟨ByteArray.empty, [(⟨(⟨#[65]⟩ : ByteArray), true⟩ : TState)], []⟩ : TProto)⟩ : TAuto_Auto))) (fun r7 => some (decide (r7 = 1))) = some true
  unfold m_auto_Auto_Finals
  obtain ⟨s, h1, h2, h3⟩ := finals_auto (p := (⟨ByteArray.empty, [(⟨(⟨#[65]⟩ : ByteArray), true⟩ : TState)], []⟩ : TProto)) (by simp)
  simp only [some_bind', h1]
  have : s = 1 := by
    apply Nat.eq_of_testBit_eq
    intro i
    rw [h3]
    unfold finB
    cases i with
    | zero => rfl
    | succ i => simp [Nat.testBit_succ]
  rw [this]
  rfl
end Go.E
