import Derived.Test.YtnahfkmdojbpkaaBRefN
/-! The reference's numbers: products and quotients. -/
set_option linter.all false
set_option maxRecDepth 100000
namespace Go.E.Ref
open Go Go.Proofs Go.Eng BallBits
variable {TB : Nat → Option Obj}
theorem src_pl {P : Program} {G : Heap} {t : TypeId} {n : Nat} {g : GV} {es : List (List PV)} (hs : isSl P t = true) (h : g = .p (.sl es) ∨ g = .csl es) : srcOf P G t n g = some es := by
  rcases h with rfl | rfl <;> simp [srcOf, hs, elems]
theorem bof_len_mul (m : Nat) (x : List Bool) (L : Nat) (hL : (bof m).length ≤ L) : (bof (m * nv x)).length ≤ L + x.length := by
  apply length_bof_le
  have h1 : m < 2 ^ L := lt_of_length hL
  have h2 := nv_lt x
  rw [Nat.pow_add]
  calc m * nv x ≤ m * 2 ^ x.length := Nat.mul_le_mul_left _ (by omega)
    _ < 2 ^ L * 2 ^ x.length := Nat.mul_lt_mul_of_pos_right h1 (Nat.pow_pos (by omega))
theorem bof_len_nv (x : List Bool) : (bof (nv x)).length ≤ x.length := length_bof_le (nv_lt x)
theorem mul_evb (a b : List Bool) (ha : a.length ≤ 10000) (hb : b.length ≤ 10000) (d : Nat) (G : Heap) : Tel Try.prog TB d 64 [bG a, bG b] G (bG (bof (nv a * nv b))) G := by
  refine Tel.intro mix Try.func64 rfl (Nat.le_of_ble_eq_true rfl) {pureAt := fun t => t == 16} (by kernel_rfl) (by kernel_rfl) ?_
  have w0 : IntKind.i64.wrap ((b.length : Int) - 1) = (b.length : Int) - 1 := by rw [wi64]; omega
  simp -implicitDefEqProofs [-Int.natCast_ediv, -Int.natCast_emod, -Int.natCast_mul, -Int.natCast_add, Try.results64, w0]
  refine gwp_loop (fun k s => s.F 0 = bG a ∧ s.F 1 = bG b ∧ s.F 6 = .p (.int .i64 ((k : Int) - 1)) ∧ (s.F 5 = bG (bof (nv a * nv (b.drop k))) ∨ s.F 5 = .csl ((bof (nv a * nv (b.drop k))).map eB)) ∧ s.G = cut d G ∧ k ≤ b.length) (m := b.length)
    ⟨by simp -implicitDefEqProofs [-Int.natCast_ediv, -Int.natCast_emod, -Int.natCast_mul, -Int.natCast_add, ], by simp -implicitDefEqProofs [-Int.natCast_ediv, -Int.natCast_emod, -Int.natCast_mul, -Int.natCast_add, ], by simp -implicitDefEqProofs [-Int.natCast_ediv, -Int.natCast_emod, -Int.natCast_mul, -Int.natCast_add, ], .inr (by simp -implicitDefEqProofs [-Int.natCast_ediv, -Int.natCast_emod, -Int.natCast_mul, -Int.natCast_add, nv, bof_zero]), by simp -implicitDefEqProofs [-Int.natCast_ediv, -Int.natCast_emod, -Int.natCast_mul, -Int.natCast_add, ], Nat.le_refl _⟩ ?_
  rintro k s ⟨h0, h1, h6, h5, hG, hk⟩
  cases k with
  | zero =>
    rw [List.drop_zero] at h5
    rcases h5 with h5 | h5 <;> simp -implicitDefEqProofs [-Int.natCast_ediv, -Int.natCast_emod, -Int.natCast_mul, -Int.natCast_add, h0, h1, h5, h6, hG]
  | succ k =>
    have e1 : (((k + 1 : Nat) : Int) - 1) = (k : Int) := by omega
    rw [e1] at h6
    have w2 : IntKind.i64.wrap ((k : Int) - 1) = (k : Int) - 1 := by rw [wi64]; omega
    have i1 := bit_at b k (by omega)
    have hlen : (bof (nv a * nv (b.drop (k + 1)))).length ≤ 20000 := by
      have := bof_len_mul (nv a) (b.drop (k + 1)) a.length (bof_len_nv a)
      simp at this; omega
    have e2 : nv ([false] ++ bof (nv a * nv (b.drop (k + 1)))) = 2 * (nv a * nv (b.drop (k + 1))) := by simp [nv, nv_bof]
    have hlen2 : (bof (2 * (nv a * nv (b.drop (k + 1))))).length ≤ 100000 := by
      have := bof_len_nv ([false] ++ bof (nv a * nv (b.drop (k + 1))))
      rw [e2] at this
      simp at this; omega
    have ht := fun d G => trim_ev (TB := TB) ([false] ++ bof (nv a * nv (b.drop (k + 1)))) (by simp; omega) d G
    have hadd := fun d G => add_ev (TB := TB) (bof (2 * (nv a * nv (b.drop (k + 1))))) a hlen2 (by omega) d G
    rw [e2] at ht
    rw [nv_bof] at hadd
    have nd := nv_drop b k (by omega)
    have ndb : b.getD k false = bitAt b k := rfl
    rw [ndb] at nd
    generalize bof (nv a * nv (b.drop (k + 1))) = x at *
    simp -implicitDefEqProofs [-Int.natCast_ediv, -Int.natCast_emod, -Int.natCast_mul, -Int.natCast_add, h0, h1, h6]
    refine append_pure (n := 1) (es := [eB false]) (xs := x.map eB) (by simp; exact ⟨rfl, rfl⟩) (src_pl (by simp) h5) rfl (by simp [eB]) (by simp) (by simp; omega) ?_
    simp -implicitDefEqProofs [-Int.natCast_ediv, -Int.natCast_emod, -Int.natCast_mul, -Int.natCast_add, ]
    refine callp (ht _ _) ?_ (hf := by simp [hG])
    cases hB : bitAt b k <;> rw [hB] at i1 <;> rw [hB] at nd
    · have e3 : nv a * nv (b.drop k) = 2 * (nv a * nv (b.drop (k + 1))) := by rw [nd]; simp; grind
      simp -implicitDefEqProofs [-Int.natCast_ediv, -Int.natCast_emod, -Int.natCast_mul, -Int.natCast_add, h0, h1, h6, hG, i1, w2, -List.getElem?_map]
      exact ⟨k, Nat.lt_succ_self k, rfl, by rw [e3], by omega⟩
    · have e3 : nv a * nv (b.drop k) = 2 * (nv a * nv (b.drop (k + 1))) + nv a := by rw [nd]; simp; grind
      simp -implicitDefEqProofs [-Int.natCast_ediv, -Int.natCast_emod, -Int.natCast_mul, -Int.natCast_add, h0, h1, h6, hG, i1, w2, -List.getElem?_map]
      refine callp (hadd _ _) ?_
      simp -implicitDefEqProofs [-Int.natCast_ediv, -Int.natCast_emod, -Int.natCast_mul, -Int.natCast_add, h0, h1, h6, hG, i1, w2, -List.getElem?_map]
      exact ⟨k, Nat.lt_succ_self k, rfl, by rw [e3], by omega⟩
theorem div_step {A A' u m : Nat} (hA : A = u + 2 * A') (hu : u ≤ 1) (_hm : 0 < m) : (u + 2 * (A' % m) < m → A / m = 2 * (A' / m) ∧ A % m = u + 2 * (A' % m)) ∧ (¬ u + 2 * (A' % m) < m → A / m = 2 * (A' / m) + 1 ∧ A % m = u + 2 * (A' % m) - m) := by
  have h1 := Nat.mod_add_div A' m
  have h2 := Nat.mod_lt A' _hm
  generalize A' % m = R at *
  generalize A' / m = Q at *
  have h3 : u + 2 * R + m * (2 * Q) = A := by rw [hA, ← h1]; grind
  constructor
  · intro h
    exact (Nat.div_mod_unique _hm).2 ⟨h3, h⟩
  · intro h
    refine (Nat.div_mod_unique _hm).2 ⟨?_, by omega⟩
    rw [Nat.mul_add]; omega
def PlS (g : GV) (es : List (List PV)) : Prop := g = .p (.sl es) ∨ g = .csl es
theorem PlS.wk {g : GV} {es : List (List PV)} (h : PlS g es) : wkR g (.p (.sl es)) := by
  rcases h with rfl | rfl <;> unfold wkR
  · rfl
  · exact .inr rfl
theorem divide_ev (a : List Bool) (m : Nat) (hm : 0 < m) (ha : a.length ≤ 10000) (hb : (bof m).length ≤ 10000) (d : Nat) (G : Heap) : Tel Try.prog TB d 73 [bG a, bG (bof m)] G (.tup [bG (bof (nv a / m)), bG (bof (nv a % m))]) G := by
  refine Tel.intro mix Try.func73 rfl (Nat.le_of_ble_eq_true rfl) {pureAt := fun t => t == 26 || t == 39} (by kernel_rfl) (by kernel_rfl) ?_
  have w0 : IntKind.i64.wrap ((a.length : Int) - 1) = (a.length : Int) - 1 := by rw [wi64]; omega
  have hm0 : ¬ (bof m = []) := fun h => by have := bof_eq_nil.1 h; omega
  simp -implicitDefEqProofs [-Int.natCast_ediv, -Int.natCast_emod, -Int.natCast_mul, -Int.natCast_add, Try.results73, w0, hm0]
  refine gwp_loop (fun k s => ∃ q : List Bool, s.F 0 = bG a ∧ s.F 1 = bG (bof m) ∧ s.F 8 = .p (.int .i64 ((k : Int) - 1)) ∧ PlS (s.F 6) (q.map eB) ∧ PlS (s.F 7) ((bof (nv (a.drop k) % m)).map eB) ∧ s.G = cut d G ∧ k ≤ a.length ∧ q.length + k = a.length ∧ nv q = nv (a.drop k) / m) (m := a.length)
    ⟨[], by simp -implicitDefEqProofs [-Int.natCast_ediv, -Int.natCast_emod, -Int.natCast_mul, -Int.natCast_add, ], by simp -implicitDefEqProofs [-Int.natCast_ediv, -Int.natCast_emod, -Int.natCast_mul, -Int.natCast_add, ], by simp -implicitDefEqProofs [-Int.natCast_ediv, -Int.natCast_emod, -Int.natCast_mul, -Int.natCast_add, ], .inr (by simp -implicitDefEqProofs [-Int.natCast_ediv, -Int.natCast_emod, -Int.natCast_mul, -Int.natCast_add, ]), .inr (by simp -implicitDefEqProofs [-Int.natCast_ediv, -Int.natCast_emod, -Int.natCast_mul, -Int.natCast_add, nv, bof_zero]), by simp -implicitDefEqProofs [-Int.natCast_ediv, -Int.natCast_emod, -Int.natCast_mul, -Int.natCast_add, ], Nat.le_refl _, by simp, by simp [nv]⟩ ?_
  rintro k s ⟨q, h0, h1, h8, h6, h7, hG, hk, hq, hn⟩
  cases k with
  | zero =>
    rw [List.drop_zero] at h7 hn
    have ht := fun d G => trim_ev (TB := TB) q (by omega) d G
    rw [hn] at ht
    simp -implicitDefEqProofs [-Int.natCast_ediv, -Int.natCast_emod, -Int.natCast_mul, -Int.natCast_add, h0, h1, h8, hG]
    refine callp (ht _ _) ?_ (hw := by simp [h6.wk])
    rcases h7 with h7 | h7 <;> simp -implicitDefEqProofs [-Int.natCast_ediv, -Int.natCast_emod, -Int.natCast_mul, -Int.natCast_add, Try.results73, h7, hG]
  | succ k =>
    have e1 : (((k + 1 : Nat) : Int) - 1) = (k : Int) := by omega
    rw [e1] at h8
    have w2 : IntKind.i64.wrap ((k : Int) - 1) = (k : Int) - 1 := by rw [wi64]; omega
    have i1 := bit_at a k (by omega)
    have hA : nv (a.drop k) = (bitAt a k).toNat + 2 * nv (a.drop (k + 1)) := nv_drop a k (by omega)
    have hu := Bool.toNat_le (bitAt a k)
    obtain ⟨d1, d2⟩ := div_step hA hu hm
    have hR := Nat.mod_lt (nv (a.drop (k + 1))) hm
    have hlen := Nat.le_trans (length_bof_le (Nat.lt_trans hR (lt_of_length (Nat.le_refl _)))) hb
    have ht := fun d G => trim_ev (TB := TB) ([bitAt a k] ++ bof (nv (a.drop (k + 1)) % m)) (by simp; omega) d G
    have e2 : nv ([bitAt a k] ++ bof (nv (a.drop (k + 1)) % m)) = (bitAt a k).toNat + 2 * (nv (a.drop (k + 1)) % m) := by simp only [List.singleton_append, nv, nv_bof]
    have hl2 := bof_len_nv ([bitAt a k] ++ bof (nv (a.drop (k + 1)) % m))
    rw [e2] at ht hl2
    have hl3 : (bof ((bitAt a k).toNat + 2 * (nv (a.drop (k + 1)) % m))).length ≤ 10001 := by simp at hl2 ⊢; omega
    have hls := fun d G => less_ev (TB := TB) ((bitAt a k).toNat + 2 * (nv (a.drop (k + 1)) % m)) m (by omega) d G
    have hlx : (bof (nv (a.drop (k + 1)) % m)).length ≤ 10000 := hlen
    clear hA hu hl2 e2 hlen hR
    generalize hx : bof (nv (a.drop (k + 1)) % m) = x at *
    generalize hv : (bitAt a k).toNat + 2 * (nv (a.drop (k + 1)) % m) = v at *
    simp -implicitDefEqProofs [-Int.natCast_ediv, -Int.natCast_emod, -Int.natCast_mul, -Int.natCast_add, h0, h1, h8, i1, -List.getElem?_map]
    refine append_pure (n := 1) (es := [eB (bitAt a k)]) (xs := x.map eB) (by simp; exact ⟨rfl, rfl⟩) (src_pl (by simp) h7) rfl (by simp [eB]) (by simp) (by simp; omega) ?_
    simp -implicitDefEqProofs [-Int.natCast_ediv, -Int.natCast_emod, -Int.natCast_mul, -Int.natCast_add, ]
    refine callp (ht _ _) ?_ (hf := by simp [hG])
    simp -implicitDefEqProofs [-Int.natCast_ediv, -Int.natCast_emod, -Int.natCast_mul, -Int.natCast_add, h1]
    refine callp (hls _ _) ?_ (hf := by simp [hG])
    by_cases hlt : v < m
    · obtain ⟨q1, q2⟩ := d1 hlt
      simp -implicitDefEqProofs [-Int.natCast_ediv, -Int.natCast_emod, -Int.natCast_mul, -Int.natCast_add, h0, h1, h8, hG, hlt]
      refine append_pure (n := 1) (es := [eB false]) (xs := q.map eB) (by simp; exact ⟨rfl, rfl⟩) (src_pl (by simp) h6) rfl (by simp [eB]) (by simp) (by simp; omega) ?_
      simp -implicitDefEqProofs [-Int.natCast_ediv, -Int.natCast_emod, -Int.natCast_mul, -Int.natCast_add, h0, h1, h8, hG, w2]
      refine ⟨k, Nat.lt_succ_self k, rfl, [false] ++ q, .inl (by simp), .inl (by rw [q2]), by omega, by simp; omega, by simp [nv, hn, q1]⟩
    · obtain ⟨q1, q2⟩ := d2 hlt
      have hs := fun d G => sub_ev (TB := TB) (bof v) (bof m) (by omega) (by rw [nv_bof, nv_bof]; omega) d G
      rw [nv_bof, nv_bof] at hs
      simp -implicitDefEqProofs [-Int.natCast_ediv, -Int.natCast_emod, -Int.natCast_mul, -Int.natCast_add, h0, h1, h8, hG, hlt]
      refine callp (hs _ _) ?_ (hf := by simp [hG])
      simp -implicitDefEqProofs [-Int.natCast_ediv, -Int.natCast_emod, -Int.natCast_mul, -Int.natCast_add, h0, h1, h8, hG, hlt]
      refine append_pure (n := 1) (es := [eB true]) (xs := q.map eB) (by simp; exact ⟨rfl, rfl⟩) (src_pl (by simp) h6) rfl (by simp [eB]) (by simp) (by simp; omega) ?_
      simp -implicitDefEqProofs [-Int.natCast_ediv, -Int.natCast_emod, -Int.natCast_mul, -Int.natCast_add, h0, h1, h8, hG, w2]
      refine ⟨k, Nat.lt_succ_self k, rfl, [true] ++ q, .inl (by simp), .inl (by rw [q2]), by omega, by simp; omega, by simp [nv, hn, q1]; omega⟩
end Go.E.Ref
