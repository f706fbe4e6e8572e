import Derived.Test.YthgohaidfaldnaaMPA
/-! Auto, plain: bits; once; states. -/
set_option linter.all false
set_option maxRecDepth 10000
namespace Go.E
open Go Go.Proofs Go.Eng
theorem ofInt_nat {w n : Nat} : BitVec.ofInt w (n : Int) = BitVec.ofNat w n := by
  apply BitVec.eq_of_toNat_eq
  simp [BitVec.toNat_ofInt]
theorem shl_bit {n : Nat} (h : n < 32) : shlI .u32 1 (n : Int) = ((2 ^ n : Nat) : Int) := by
  unfold shlI
  have h2 : 2 ^ n < 2 ^ 32 := Nat.pow_lt_pow_right (by decide) h
  have e : min ((n : Int).toNat) IntKind.u32.bits = n := by simp [IntKind.bits]; omega
  rw [e, IntKind.wrap_u32, Int.one_mul]
  rw [show ((2 : Int) ^ n) = ((2 ^ n : Nat) : Int) from by simp]
  generalize hk : 2 ^ n = k at *
  have h3 : k < 4294967296 := h2
  clear hk e
  omega
theorem or_bit {s n : Nat} (hs : s < 4294967296) (h : n < 32) : orI .u32 (s : Int) (shlI .u32 1 (n : Int)) = ((s ||| 2 ^ n : Nat) : Int) := by
  rw [shl_bit h]
  have h2 : 2 ^ n < 2 ^ 32 := Nat.pow_lt_pow_right (by decide) h
  have h3 : s ||| 2 ^ n < 2 ^ 32 := Nat.or_lt_two_pow (by omega) h2
  unfold orI
  rw [ofInt_nat, ofInt_nat, BitVec.toNat_or, BitVec.toNat_ofNat, BitVec.toNat_ofNat]
  simp only [IntKind.bits]
  rw [Nat.mod_eq_of_lt (show s < 2 ^ 32 by omega), Nat.mod_eq_of_lt h2, IntKind.wrap_u32]
  omega
theorem or_lt {s n : Nat} (hs : s < 4294967296) (h : n < 32) : s ||| 2 ^ n < 4294967296 :=
  Nat.or_lt_two_pow (n := 32) (by omega) (Nat.pow_lt_pow_right (by decide) h)
theorem and_bit {s n : Nat} (hs : s < 4294967296) (h : n < 32) : andI .u32 (shrI .u32 (s : Int) (n : Int)) 1 = if s.testBit n then 1 else 0 := by
  have e : min ((n : Int).toNat) IntKind.u32.bits = n := by simp [IntKind.bits]; omega
  have e2 : shrI .u32 (s : Int) (n : Int) = ((s / 2 ^ n : Nat) : Int) := by
    unfold shrI
    rw [e, Int.fdiv_eq_ediv_of_nonneg _ (by exact Int.le_of_lt (Int.pow_pos (by decide)))]
    simp
  have h3 : s / 2 ^ n < 2 ^ 32 := Nat.lt_of_le_of_lt (Nat.div_le_self _ _) (by omega)
  rw [e2]
  unfold andI
  rw [show (1 : Int) = ((1 : Nat) : Int) from rfl, ofInt_nat, ofInt_nat, BitVec.toNat_and, BitVec.toNat_ofNat, BitVec.toNat_ofNat]
  simp only [IntKind.bits]
  rw [Nat.mod_eq_of_lt h3, Nat.mod_eq_of_lt (show 1 < 2 ^ 32 by decide), Nat.and_one_is_mod, IntKind.wrap_u32]
  rw [Nat.testBit_eq_decide_div_mod_eq]
  rcases Nat.mod_two_eq_zero_or_one (s / 2 ^ n) with h | h <;> simp [h]
def sameM (p : TProto) (m : TMove) (j : Nat) : Bool := match p.f2[j]? with | some x => decide (x.f0 = m.f0) && decide (x.f1 = m.f1) | none => false
def nmO (m : TMove) (k : Nat) : ByteArray := match m.f2[k]? with | some o => o.f0 | none => ByteArray.empty
def nmS (p : TProto) (k : Nat) : ByteArray := match p.f1[k]? with | some o => o.f0 | none => ByteArray.empty
def againM (p : TProto) (m : TMove) (i : Nat) : Bool := (fst i (sameM p m)).isSome || (fst m.f2.length (dup m.f2.length (nmO m))).isSome
theorem again_ref {p : TProto} {i : Nat} (h : i < p.f2.length) (hb : p.f2.length ≤ 80) (hc : (p.f2[i]).f2.length ≤ 80) : m_ref09_again p (i : Int) = some (againM p p.f2[i] i) := by
  unfold m_ref09_again
  rw [gi_of h]
  simp only [some_bind']
  rw [show ((0 : Int)) = ((0 : Nat) : Int) from rfl, loopO_first (fun i : Nat => (i : Int)) i (sameM p p.f2[i]) (fun _ => true) () ?_ ?_]
  · unfold againM
    cases fst i (sameM p p.f2[i]) with
    | some _ => rfl
    | none =>
      simp only [some_bind']
      rw [loopO_first (fun i : Nat => (i : Int)) (p.f2[i]).f2.length (dup (p.f2[i]).f2.length (nmO p.f2[i])) (fun _ => true) () ?_ ?_]
      · cases fst (p.f2[i]).f2.length (dup (p.f2[i]).f2.length (nmO p.f2[i])) <;> rfl
      · intro k hk _
        unfold m_ref09_again_L1
        simp only [lt_cast, decide_eq_true hk, ifB_true]
        rw [show ((0 : Int)) = ((0 : Nat) : Int) from rfl, loopO_first (fun i : Nat => (i : Int)) k (fun j => decide (nmO p.f2[i] j = nmO p.f2[i] k)) (fun _ => true) () ?_ ?_]
        · unfold dup
          rw [wrap_succ (by omega)]
          cases fst k (fun j => decide (nmO p.f2[i] j = nmO p.f2[i] k)) <;> rfl
        · intro j hj _
          unfold m_ref09_again_L2
          have hj' : j < (p.f2[i]).f2.length := by omega
          simp only [lt_cast, decide_eq_true hj, ifB_true, gi_of hk, gi_of hj', some_bind', nmO, List.getElem?_eq_getElem hk, List.getElem?_eq_getElem hj']
          rw [wrap_succ (by omega), show decide (((p.f2[i]).f2[k]).f0 = ((p.f2[i]).f2[j]).f0) = decide (((p.f2[i]).f2[j]).f0 = ((p.f2[i]).f2[k]).f0) from decide_eq_decide.2 ⟨Eq.symm, Eq.symm⟩]
          cases decide (((p.f2[i]).f2[j]).f0 = ((p.f2[i]).f2[k]).f0) <;> rfl
        · intro _
          unfold m_ref09_again_L2
          simp only [lt_cast, Nat.lt_irrefl, decide_false, ifB_false]
      · intro _
        unfold m_ref09_again_L1
        simp only [lt_cast, Nat.lt_irrefl, decide_false, ifB_false]
  · intro k hk _
    unfold m_ref09_again_L0
    have hk' : k < p.f2.length := by omega
    simp only [lt_cast, decide_eq_true hk, ifB_true, gi_of hk', some_bind', sameM, List.getElem?_eq_getElem hk']
    rw [wrap_succ (by omega)]
    cases decide ((p.f2[k]).f0 = (p.f2[i]).f0) <;> cases decide ((p.f2[k]).f1 = (p.f2[i]).f1) <;> rfl
  · intro _
    unfold m_ref09_again_L0
    simp only [lt_cast, Nat.lt_irrefl, decide_false, ifB_false]
theorem once_auto {p : TProto} {i : Nat} (h : i < p.f2.length) (hb : p.f2.length ≤ 80) (hc : (p.f2[i]).f2.length ≤ 80) : m_auto_once p (i : Int) = some (!againM p p.f2[i] i) := by
  unfold m_auto_once
  rw [gi_of h]
  simp only [some_bind']
  have e : subL p.f2 0 (i : Int) = some (p.f2.take i) := by
    unfold subL
    rw [if_pos ⟨by omega, by omega, by omega⟩]
    simp
  rw [e]
  simp only [some_bind']
  unfold m_slices_ContainsFunc_api_Move
  have hl : (p.f2.take i).length = i := by rw [List.length_take]; omega
  rw [indexMove (by omega) (g := fun x => decide (x.f0 = (p.f2[i]).f0) && decide (x.f1 = (p.f2[i]).f1)) fun o => by unfold m_auto_once_1; cases decide (o.f0 = (p.f2[i]).f0) <;> rfl]
  simp only [some_bind', nonneg_fst]
  rw [hl, fst_congr (P' := sameM p p.f2[i]) fun j hj => by unfold sameM; rw [List.getElem?_take_of_lt hj]; cases p.f2[j]? <;> rfl]
  rw [twice_auto hc (nm := nmO p.f2[i]) fun k hk => by unfold m_auto_once_2 nmO; rw [gi_of hk, List.getElem?_eq_getElem hk]; rfl]
  simp only [some_bind']
  unfold againM
  cases fst i (sameM p p.f2[i]) with
  | some _ => rfl
  | none =>
    cases hq : fst (p.f2[i]).f2.length (dup (p.f2[i]).f2.length (nmO p.f2[i])) with
    | none => rfl
    | some k =>
      show some (decide ((k : Int) < 0)) = _
      rw [decide_eq_false (by omega)]; rfl
end Go.E
