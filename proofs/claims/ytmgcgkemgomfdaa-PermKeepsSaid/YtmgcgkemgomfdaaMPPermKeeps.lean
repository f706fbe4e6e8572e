import Derived.Test.YtmgcgkemgomfdaaMPB
/-! Permissions split part after part: the reckoning. -/
set_option linter.all false
set_option maxRecDepth 10000
namespace Go.E
open Go Go.Proofs Go.Eng
def R4 (m : Nat) : Rat := mkRat (m : Int) 4096
theorem r4_fits {m : Nat} (h : m ≤ 4096) : BallQ.fits (R4 m) := by
  unfold BallQ.fits R4
  rw [Rat.num_mkRat, Rat.den_mkRat, if_neg (by decide), if_neg (by decide), Int.natAbs_natCast]
  have h1 : 4096 / Nat.gcd 4096 m ≤ 4096 := Nat.div_le_self _ _
  have h2 : ((m : Int) / ((Nat.gcd 4096 m : Nat) : Int)) = ((m / Nat.gcd 4096 m : Nat) : Int) := (Int.natCast_ediv _ _).symm
  have h3 : m / Nat.gcd 4096 m ≤ m := Nat.div_le_self _ _
  rw [h2, Int.natAbs_natCast]
  generalize m / Nat.gcd 4096 m = x at *
  generalize 4096 / Nat.gcd 4096 m = y at *
  omega
theorem q_wt : ∀ j, j < 13 → BallQ.q 1 ((2 ^ j : Nat) : Int) = R4 (wt j) := by decide +kernel
theorem r4_add {a b : Nat} : R4 a + R4 b = R4 (a + b) := by
  unfold R4
  rw [Rat.mkRat_add_mkRat _ _ (by decide) (by decide)]
  have : ((a : Int) * ((4096 : Nat) : Int) + (b : Int) * ((4096 : Nat) : Int)) = ((a + b : Nat) : Int) * ((4096 : Nat) : Int) := by omega
  rw [this, Rat.mkRat_mul_right (by decide)]
theorem do_wt {m j : Nat} (hj : j < 13) (h : m + wt j ≤ 4096) : m_ref01_Do 0 ⟨(R4 m).num, ((R4 m).den : Int)⟩ (P2 j) = some (⟨(R4 (m + wt j)).num, ((R4 (m + wt j)).den : Int)⟩, 0) := by
  obtain ⟨hr, hn, hd⟩ := BallQ.right_fits (r4_fits (show m ≤ 4096 by omega))
  unfold m_ref01_Do
  rw [rq_true (decide_eq_true ⟨⟨hn, hd⟩, in_p2 (by omega)⟩), if_pos rfl]
  show some (toR (addS (R4 m).num ((R4 m).den : Int) 1 ((2 ^ j : Nat) : Int))) = _
  unfold addS
  rw [if_pos ⟨hr, right_p2 (by omega)⟩, BallQ.q_self, q_wt j hj, r4_add, out_ok (r4_fits h)]
  rfl
def cn (l : List TPerm) (i : Nat) (k : Int) : Int := (((l.take i).map (·.f0)).count k : Nat)
theorem cn_succ {l : List TPerm} {i : Nat} (h : i < l.length) (k : Int) : cn l (i + 1) k = cn l i k + if (l[i]).f0 = k then 1 else 0 := by
  unfold cn
  rw [List.take_succ_eq_append_getElem h, List.map_append, List.count_append, List.map_cons, List.map_nil, List.count_singleton]
  by_cases e : (l[i]).f0 = k
  · simp [e]
  · simp [e]
theorem cn_le {l : List TPerm} {i : Nat} {k : Int} : 0 ≤ cn l i k ∧ cn l i k ≤ l.length := by
  unfold cn
  have h1 : ((l.take i).map (·.f0)).count k ≤ ((l.take i).map (·.f0)).length := List.count_le_length
  rw [List.length_map, List.length_take] at h1
  omega
theorem keeps_L1 {l : List TPerm} (hI : Inv l 12) : loopO (m_law15_PermKeeps_L1 l) (0, [0, 0, 0, 0, 0], 0, 1) = some (.inl ([cn l l.length 0, cn l l.length 1, cn l l.length 2, cn l l.length 3, cn l l.length 4], 1, 1)) := by
  obtain ⟨js, j1, j2, j3⟩ := hI.js
  have hlen : js.length = l.length := by have := congrArg List.length j1; simpa using this.symm
  have hll := hI.len
  have hsum : ∀ i, i ≤ l.length → ((js.take i).map wt).sum + ((js.drop i).map wt).sum = 4096 := fun i _ => by
    rw [← List.sum_append_nat, ← List.map_append, List.take_append_drop, j3]
  have key : ∃ r, loopO (m_law15_PermKeeps_L1 l) (0, [0, 0, 0, 0, 0], 0, 1) = some r ∧ r = .inl ([cn l l.length 0, cn l l.length 1, cn l l.length 2, cn l l.length 3, cn l l.length 4], (R4 4096).num, ((R4 4096).den : Int)) := by
    refine loopO_count l.length (fun i st => st.1 = (i : Int) ∧ st.2.1 = [cn l i 0, cn l i 1, cn l i 2, cn l i 3, cn l i 4] ∧ st.2.2.1 = (R4 ((js.take i).map wt).sum).num ∧ st.2.2.2 = ((R4 ((js.take i).map wt).sum).den : Int)) _ ?_ ?_ ⟨rfl, rfl, show (0 : Int) = (R4 0).num by decide +kernel, show (1 : Int) = ((R4 0).den : Int) by decide +kernel⟩
    · rintro i ⟨w, nl, a, b⟩ hi ⟨rfl, rfl, rfl, rfl⟩
      left
      have hij : i < js.length := by omega
      have hp : (l[i]).f1 = P2 js[i] := by
        have e := congrArg (fun x => x[i]?) j1
        simpa [List.getElem?_map, List.getElem?_eq_getElem hi, List.getElem?_eq_getElem hij] using e
      have hjn := j2 _ (List.getElem_mem hij)
      have hf := mode_range hI.mode (l[i]).f0 (List.mem_map_of_mem (List.getElem_mem hi))
      have hnext : ((js.take (i + 1)).map wt).sum = ((js.take i).map wt).sum + wt js[i] := by
        rw [List.take_succ_eq_append_getElem hij, List.map_append, List.sum_append_nat]; simp
      have hs1 := hsum (i + 1) (by omega)
      have hdo := do_wt (m := ((js.take i).map wt).sum) (j := js[i]) (by omega) (by omega)
      unfold m_law15_PermKeeps_L1
      dsimp only
      rw [lt_cast, decide_eq_true hi, ifB_true, rq_true (decide_eq_true (by omega)), rq_true rfl]
      simp only [some_bind', gi_of hi]
      rw [rq_true (decide_eq_true hf.1), rq_true (decide_eq_true (by omega))]
      simp only [some_bind']
      have c0 := cn_le (l := l) (i := i) (k := 0)
      have c1 := cn_le (l := l) (i := i) (k := 1)
      have c2 := cn_le (l := l) (i := i) (k := 2)
      have c3 := cn_le (l := l) (i := i) (k := 3)
      have c4 := cn_le (l := l) (i := i) (k := 4)
      have h5 : (l[i]).f0 = 0 ∨ (l[i]).f0 = 1 ∨ (l[i]).f0 = 2 ∨ (l[i]).f0 = 3 ∨ (l[i]).f0 = 4 := by omega
      have hget : ∃ v, gi [cn l i 0, cn l i 1, cn l i 2, cn l i 3, cn l i 4] (l[i]).f0 = some v ∧ [cn l i 0, cn l i 1, cn l i 2, cn l i 3, cn l i 4].set (l[i]).f0.toNat (IntKind.wrap .i64 (v + 1)) = [cn l (i + 1) 0, cn l (i + 1) 1, cn l (i + 1) 2, cn l (i + 1) 3, cn l (i + 1) 4] := by
        rw [cn_succ hi, cn_succ hi, cn_succ hi, cn_succ hi, cn_succ hi]
        rcases h5 with e | e | e | e | e <;> rw [e] <;> refine ⟨_, rfl, ?_⟩ <;> rw [wrap_i64 (by omega) (by omega)] <;> simp
      obtain ⟨v, hv, hset⟩ := hget
      rw [hv]
      simp only [some_bind']
      rw [rq_true (decide_eq_true (show (l[i]).f0 < (([cn l i 0, cn l i 1, cn l i 2, cn l i 3, cn l i 4].length : Nat) : Int) from by show (l[i]).f0 < (5 : Int); omega)), hset, hp, hdo]
      simp only [some_bind', decide_true, Bool.not_true, ifB_false]
      rw [wrap_succ (by omega)]
      exact ⟨_, rfl, rfl, rfl, by rw [hnext], by rw [hnext]⟩
    · rintro ⟨w, nl, a, b⟩ ⟨rfl, rfl, rfl, rfl⟩
      unfold m_law15_PermKeeps_L1
      simp only [lt_cast, Nat.lt_irrefl, decide_false, ifB_false]
      refine ⟨_, rfl, ?_⟩
      rw [← hlen, List.take_length, j3]
  obtain ⟨_, hr, rfl⟩ := key
  rw [hr]
  rw [show (R4 4096).num = 1 from by decide +kernel, show (R4 4096).den = 1 from by decide +kernel]
  rfl
theorem cn_zero {l : List TPerm} {k : Int} (h : ∀ x ∈ l.map (·.f0), x ≠ k) : cn l l.length k = 0 := by
  unfold cn
  rw [List.take_length, List.count_eq_zero.2 fun hk => h k hk rfl]; rfl
theorem P_PermKeeps (a0 a1 : List Int) (h0 : a0.length * 1 ≤ 140737488351232 ∧ ∀ z ∈ a0, (Lit.int .u8 z).wf = true) (h1 : a1.length * 1 ≤ 140737488351232 ∧ ∀ z ∈ a1, (Lit.int .u8 z).wf = true) : m_law15_PermKeeps a0 a1 = some true := by
  have hu : ∀ z : Int, (Lit.int .u8 z).wf = true → 0 ≤ z ∧ z < 256 := fun z h => by
    simp [Lit.wf, IntKind.min, IntKind.max, IntKind.signed, IntKind.bits] at h
    omega
  unfold m_law15_PermKeeps m_perm_Own m_perm_one
  rw [awake15]
  simp only [some_bind', Bool.not_true, ifB_false]
  by_cases hl : (12 : Int) < (a0.length : Int)
  · rw [decide_eq_true hl]; rfl
  · rw [decide_eq_false hl]
    obtain ⟨l, hL, hI⟩ := keeps_L0 (a0 := a0) (a1 := a1) (by omega) (fun z hz => hu z (h0.2 z hz)) (fun z hz => hu z (h1.2 z hz)) (by omega)
    simp only [ifB_false]
    rw [hL]
    simp only [some_bind', keeps_L1 hI]
    rw [show eqTRat (⟨1, 1⟩ : TRat) (⟨1, 1⟩ : TRat) = true from rfl]
    simp only [Bool.not_true, ifB_false]
    rw [show gi [cn l l.length 0, cn l l.length 1, cn l l.length 2, cn l l.length 3, cn l l.length 4] ((0 : Int) : Int) = some (cn l l.length 0) from rfl,
      show gi [cn l l.length 0, cn l l.length 1, cn l l.length 2, cn l l.length 3, cn l l.length 4] ((1 : Int) : Int) = some (cn l l.length 1) from rfl,
      show gi [cn l l.length 0, cn l l.length 1, cn l l.length 2, cn l l.length 3, cn l l.length 4] ((2 : Int) : Int) = some (cn l l.length 2) from rfl,
      show gi [cn l l.length 0, cn l l.length 1, cn l l.length 2, cn l l.length 3, cn l l.length 4] ((3 : Int) : Int) = some (cn l l.length 3) from rfl,
      show gi [cn l l.length 0, cn l l.length 1, cn l l.length 2, cn l l.length 3, cn l l.length 4] ((4 : Int) : Int) = some (cn l l.length 4) from rfl]
    simp only [some_bind', rq_true (show decide ((0 : Int) ≤ 0) = true from rfl), rq_true (show decide ((0 : Int) < 5) = true from rfl), rq_true (show decide ((0 : Int) ≤ 1) = true from rfl), rq_true (show decide ((1 : Int) < 5) = true from rfl), rq_true (show decide ((0 : Int) ≤ 2) = true from rfl), rq_true (show decide ((2 : Int) < 5) = true from rfl), rq_true (show decide ((0 : Int) ≤ 3) = true from rfl), rq_true (show decide ((3 : Int) < 5) = true from rfl), rq_true (show decide ((0 : Int) ≤ 4) = true from rfl), rq_true (show decide ((4 : Int) < 5) = true from rfl)]
    have c0 := cn_le (l := l) (i := l.length) (k := 0)
    have c1 := cn_le (l := l) (i := l.length) (k := 1)
    have c2 := cn_le (l := l) (i := l.length) (k := 2)
    have c3 := cn_le (l := l) (i := l.length) (k := 3)
    have c4 := cn_le (l := l) (i := l.length) (k := 4)
    rcases hI.mode with hm | ⟨hm, hc⟩ | hm | hm
    · have e1 : l.length = 1 := by have := congrArg List.length hm; simpa using this
      have z : ∀ k : Int, k ≠ 0 → cn l l.length k = 0 := fun k hk => cn_zero fun x hx => by rw [hm] at hx; simp at hx; omega
      rw [z 1 (by decide), z 2 (by decide), z 3 (by decide), z 4 (by decide), e1]
      by_cases hp : 0 < cn l 1 0
      · rw [decide_eq_true hp]; rfl
      · rw [decide_eq_false hp]; rfl
    · have z0 : cn l l.length 0 = 0 := cn_zero fun x hx => by have := hm x hx; omega
      have z2 : cn l l.length 2 = 0 := cn_zero fun x hx => by have := hm x hx; omega
      have z3 : cn l l.length 3 = 0 := cn_zero fun x hx => by have := hm x hx; omega
      have l1 : ¬ 1 < cn l l.length 1 := by unfold cn; rw [List.take_length]; omega
      rw [z0, z2, z3, decide_eq_false l1]
      cases decide (0 < cn l l.length 1) <;> rfl
    · have z0 : cn l l.length 0 = 0 := cn_zero fun x hx => by have := hm x hx; omega
      have z1 : cn l l.length 1 = 0 := cn_zero fun x hx => by have := hm x hx; omega
      have z3 : cn l l.length 3 = 0 := cn_zero fun x hx => by have := hm x hx; omega
      rw [z0, z1, z3]
      cases decide (0 < cn l l.length 2) <;> rfl
    · have z0 : cn l l.length 0 = 0 := cn_zero fun x hx => by have := hm x hx; omega
      have z1 : cn l l.length 1 = 0 := cn_zero fun x hx => by have := hm x hx; omega
      have z2 : cn l l.length 2 = 0 := cn_zero fun x hx => by have := hm x hx; omega
      have z4 : cn l l.length 4 = 0 := cn_zero fun x hx => by have := hm x hx; omega
      rw [z0, z1, z2, z4]
      cases decide (0 < cn l l.length 3) <;> rfl
end Go.E
