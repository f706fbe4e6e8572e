import Derived.Test.YtnahfkmdojbpkaaMF
import Derived.Test.YtnahfkmdojbpkaaBBitsP
import Derived.Test.YtnahfkmdojbpkaaBRatP
/-! The reference's numbers: rows of bits, as the program reckons them. -/
set_option linter.all false
set_option maxRecDepth 100000
namespace Go.E.Ref
open Go Go.Proofs Go.Eng BallBits
variable {TB : Nat → Option Obj}
def eB (b : Bool) : List PV := [.bool b]
abbrev bG (l : List Bool) : GV := .p (.sl (l.map eB))
theorem sz_bits (l : List Bool) : sizes (l.map eB) 1 := sizes_map (f := eB) (fun _ => rfl) l
theorem sz_bit (b : Bool) : sizes [[PV.bool b]] 1 := by exact sizes_cons (by rfl) sizes_nil
attribute [simp] sz_bits sz_bit
def bitAt (l : List Bool) (i : Nat) : Bool := l.getD i false
theorem bit_at (l : List Bool) (i : Nat) (h : i < l.length) : (l.map eB)[i]? = some [.bool (bitAt l i)] := by
  rw [List.getElem?_map, List.getElem?_eq_getElem h]
  unfold bitAt
  rw [List.getD_eq_getElem?_getD, List.getElem?_eq_getElem h]; rfl
theorem bitAt_far {l : List Bool} {i : Nat} (h : l.length ≤ i) : bitAt l i = false := by
  simp [bitAt, List.getD_eq_getElem?_getD, List.getElem?_eq_none h]
theorem bit_get (l : List Bool) (i : Nat) (h : i < l.length) : l[i] = bitAt l i := by
  unfold bitAt
  rw [List.getD_eq_getElem?_getD, List.getElem?_eq_getElem h]; rfl
theorem bit_ev (l : List Bool) (i : Nat) (d : Nat) (G : Heap) : Tel Try.prog TB d 87 [bG l, .p (.int .i64 (i : Int))] G (.p (.bool (bitAt l i))) G := by
  refine Tel.intro mix Try.func87 rfl (Nat.le_of_ble_eq_true rfl) {} (by kernel_rfl) (by kernel_rfl) ?_
  by_cases h : i < l.length
  · simp -implicitDefEqProofs [-Int.natCast_ediv, -Int.natCast_emod, -Int.natCast_mul, -Int.natCast_add, Try.results87, h, bit_get l i h, eB]
  · simp -implicitDefEqProofs [-Int.natCast_ediv, -Int.natCast_emod, -Int.natCast_mul, -Int.natCast_add, Try.results87, h, bitAt_far (Nat.not_lt.1 h)]
theorem trim_ev (l : List Bool) (hl : l.length ≤ 1000000) (d : Nat) (G : Heap) : Tel Try.prog TB d 79 [bG l] G (bG (bof (nv l))) G := by
  refine Tel.intro mix Try.func79 rfl (Nat.le_of_ble_eq_true rfl) {} (by kernel_rfl) (by kernel_rfl) ?_
  simp -implicitDefEqProofs [-Int.natCast_ediv, -Int.natCast_emod, -Int.natCast_mul, -Int.natCast_add, Try.results79]
  refine gwp_loop (fun k s => s.F 0 = bG l ∧ s.F 3 = .p (.int .i64 (k : Int)) ∧ s.G = cut d G ∧ k ≤ l.length ∧ nv (l.take k) = nv l) (m := l.length) ⟨by simp -implicitDefEqProofs [-Int.natCast_ediv, -Int.natCast_emod, -Int.natCast_mul, -Int.natCast_add, ], by simp -implicitDefEqProofs [-Int.natCast_ediv, -Int.natCast_emod, -Int.natCast_mul, -Int.natCast_add, ], by simp -implicitDefEqProofs [-Int.natCast_ediv, -Int.natCast_emod, -Int.natCast_mul, -Int.natCast_add, ], Nat.le_refl _, by simp⟩ ?_
  rintro k s ⟨h0, h3, hG, hk, hn⟩
  cases k with
  | zero =>
    have : nv l = 0 := by simpa [nv] using hn.symm
    simp -implicitDefEqProofs [-Int.natCast_ediv, -Int.natCast_emod, -Int.natCast_mul, -Int.natCast_add, h0, h3, hG, this, bof_zero]
  | succ k =>
    have hw : IntKind.i64.wrap (((k + 1 : Nat) : Int) - 1) = (k : Int) := by rw [wi64]; omega
    have hp : (0 : Int) < ((k + 1 : Nat) : Int) := by omega
    by_cases hb : bitAt l k = true
    · have ht := take_one_bof l k hk hb
      rw [hn] at ht
      simp -implicitDefEqProofs [-Int.natCast_ediv, -Int.natCast_emod, -Int.natCast_mul, -Int.natCast_add, h0, h3, hG, hw, hp, bit_at l k hk, hb, -List.getElem?_map, ht, List.map_take, hk]
    · have hb' : bitAt l k = false := by simpa using hb
      simp -implicitDefEqProofs [-Int.natCast_ediv, -Int.natCast_emod, -Int.natCast_mul, -Int.natCast_add, h0, h3, hG, hw, hp, bit_at l k hk, hb', -List.getElem?_map]
      refine ⟨k, Nat.lt_succ_self k, rfl, by omega, ?_⟩
      rw [← hn, nv_take_succ l k hk]
      unfold bitAt at hb'
      rw [hb']; simp
theorem of_ev (n : Nat) (hn : n < 18446744073709551616) (d : Nat) (G : Heap) : Tel Try.prog TB d 75 [.p (.int .u64 (n : Int))] G (bG (bof n)) G := by
  refine Tel.intro mix Try.func75 rfl (Nat.le_of_ble_eq_true rfl) {} (by kernel_rfl) (by kernel_rfl) ?_
  simp -implicitDefEqProofs [-Int.natCast_ediv, -Int.natCast_emod, -Int.natCast_mul, -Int.natCast_add, Try.results75]
  refine gwp_loop (fun k s => ∃ out : List Bool, s.F 0 = .p (.int .u64 (k : Int)) ∧ Grow s.G (d + 1) 11 1 (out.map eB) (s.F 3) ∧ agree d s.G G ∧ out ++ bof k = bof n ∧ out.length + (bof k).length ≤ 64 ∧ k < 18446744073709551616) (m := n)
    ⟨[], by simp -implicitDefEqProofs [-Int.natCast_ediv, -Int.natCast_emod, -Int.natCast_mul, -Int.natCast_add, ], by simp -implicitDefEqProofs [-Int.natCast_ediv, -Int.natCast_emod, -Int.natCast_mul, -Int.natCast_add, ]; exact Grow.start (by simp), by simp -implicitDefEqProofs [-Int.natCast_ediv, -Int.natCast_emod, -Int.natCast_mul, -Int.natCast_add, ], by simp, by simpa using length_bof_le (m := 64) hn, hn⟩ ?_
  rintro k s ⟨out, h0, h3, hA, ho, hl, hk⟩
  by_cases h : k = 0
  · subst h
    rw [bof_zero, List.append_nil] at ho
    subst ho
    rcases h3 with ⟨h3, _⟩ | ⟨h3, _⟩
    · simp -implicitDefEqProofs [-Int.natCast_ediv, -Int.natCast_emod, -Int.natCast_mul, -Int.natCast_add, h0, h3, hA]
    · simp -implicitDefEqProofs [-Int.natCast_ediv, -Int.natCast_emod, -Int.natCast_mul, -Int.natCast_add, h0, h3, hA]
  · have hp : 0 < k := by omega
    have e1 : IntKind.u64.wrap ((k : Int) / 2) = ((k / 2 : Nat) : Int) := by rw [wu64]; omega
    have e2' : decide ((k : Int).tmod 2 = 1) = (k % 2 == 1) := by
      rw [Int.tmod_eq_emod_of_nonneg (by omega)]
      rcases Nat.mod_two_eq_zero_or_one k with e | e
      · have : (k : Int) % 2 = 0 := by omega
        rw [this, e]; rfl
      · have : (k : Int) % 2 = 1 := by omega
        rw [this, e]; rfl
    rw [bof_pos h] at ho hl
    simp -implicitDefEqProofs [-Int.natCast_ediv, -Int.natCast_emod, -Int.natCast_mul, -Int.natCast_add, h0, h, hp]
    refine append_grow (es := out.map eB) (xs := [eB (k % 2 == 1)]) h3 (by simp; exact ⟨rfl, rfl⟩) (by simp -implicitDefEqProofs [-Int.natCast_ediv, -Int.natCast_emod, -Int.natCast_mul, -Int.natCast_add, e2', eB, srcOf]) rfl (by simp) (by simp [eB]) (by simp at hl ⊢; omega) (by simp) ?_
    intro G' hg hf ha
    simp -implicitDefEqProofs [-Int.natCast_ediv, -Int.natCast_emod, -Int.natCast_mul, -Int.natCast_add, e1, h0]
    refine ⟨k / 2, by omega, rfl, out ++ [k % 2 == 1], .inr ⟨by simp, by simpa using hg⟩, ha _ _ (by omega) hA, by simpa using ho, by simp at hl ⊢; omega, by omega⟩
theorem add_arith {p c u v x y q s o t : Nat} (h : c + u + v = q + 2 * s) (h4 : o + p * (c + (u + 2 * x) + (v + 2 * y)) = t) : o + p * q + p * 2 * (s + x + y) = t := by
  rw [← h4]
  have : c + (u + 2 * x) + (v + 2 * y) = q + 2 * (s + x + y) := by omega
  rw [this, Nat.mul_add p q, Nat.mul_assoc, Nat.add_assoc]
theorem half_of (n : Nat) (hn : n ≤ 3) : decide ((n : Int).tmod 2 = 1) = (n % 2 == 1) ∧ IntKind.i64.wrap ((n : Int) / 2) = ((n / 2 : Nat) : Int) := by
  have : n = 0 ∨ n = 1 ∨ n = 2 ∨ n = 3 := by omega
  rw [wi64]
  rcases this with rfl | rfl | rfl | rfl <;> decide
/-- A sum's round: the new digit, the new carry. -/
theorem add_round {a b out : List Bool} {c n : Nat} (hn : n = c + (bitAt a out.length).toNat + (bitAt b out.length).toNat)
    (h4 : nv out + 2 ^ out.length * (c + nv (a.drop out.length) + nv (b.drop out.length)) = nv a + nv b) :
    nv (out ++ [n % 2 == 1]) + 2 ^ (out ++ [n % 2 == 1]).length * (n / 2 + nv (a.drop (out ++ [n % 2 == 1]).length) + nv (b.drop (out ++ [n % 2 == 1]).length)) = nv a + nv b := by
  have da := nv_drop' a out.length
  have db := nv_drop' b out.length
  rw [da, db] at h4
  have hnv : nv (out ++ [n % 2 == 1]) = nv out + 2 ^ out.length * (n % 2) := by
    rw [nv_append]; rcases Nat.mod_two_eq_zero_or_one n with e | e <;> simp [nv, e]
  rw [hnv]
  simp only [List.length_append, List.length_singleton, Nat.pow_succ]
  unfold bitAt at hn
  exact add_arith (by have := Nat.mod_add_div n 2; omega) h4
theorem add_next {d k n c : Nat} {a b out : List Bool} {G G' : Heap} (hn : n = c + (bitAt a out.length).toNat + (bitAt b out.length).toNat)
    (h4 : nv out + 2 ^ out.length * (c + nv (a.drop out.length) + nv (b.drop out.length)) = nv a + nv b) (hc : c ≤ 1) (hk : out.length + k = max a.length b.length + 1) (hk1 : 0 < k)
    (hg : get G' (d + 1, 39, 0) = some (.tok (out.map eB ++ [eB (n % 2 == 1)]).length 1)) (hA : agree d G' G) (g43 : G' (d + 1) 43 = []) (g26 : G' (d + 1) 26 = []) (g31 : G' (d + 1) 31 = []) :
    ∃ k', k' < k ∧ ∃ (x : List Bool) (x_1 : Nat), ((n / 2 : Nat) : Int) = (x_1 : Int) ∧ ((out.length + 1 : Nat) : Int) = (x.length : Int) ∧ Grow G' (d + 1) 39 1 (x.map eB) (.tsl (out.map eB ++ [eB (n % 2 == 1)]) (d + 1, 39, 0)) ∧ agree d G' G ∧
      G' (d + 1) 43 = [] ∧ G' (d + 1) 26 = [] ∧ G' (d + 1) 31 = [] ∧ x_1 ≤ 1 ∧ x.length + k' = max a.length b.length + 1 ∧ (k' = 0 → x_1 = 0) ∧
      nv x + 2 ^ x.length * (x_1 + nv (a.drop x.length) + nv (b.drop x.length)) = nv a + nv b := by
  have ba := Bool.toNat_le (bitAt a out.length)
  have bb := Bool.toNat_le (bitAt b out.length)
  refine ⟨k - 1, by omega, out ++ [n % 2 == 1], n / 2, rfl, by simp, .inr ⟨by simp, by simpa using hg⟩, hA, g43, g26, g31, by omega, by simp; omega, fun h => ?_, add_round hn h4⟩
  rw [bitAt_far (by omega : a.length ≤ out.length), bitAt_far (by omega : b.length ≤ out.length)] at hn
  simp at hn
  omega
theorem add_ev (a b : List Bool) (ha : a.length ≤ 100000) (hb : b.length ≤ 100000) (d : Nat) (G : Heap) : Tel Try.prog TB d 74 [bG a, bG b] G (bG (bof (nv a + nv b))) G := by
  refine Tel.intro mix Try.func74 rfl (Nat.le_of_ble_eq_true rfl) {} (by kernel_rfl) (by kernel_rfl) ?_
  simp -implicitDefEqProofs [-Int.natCast_ediv, -Int.natCast_emod, -Int.natCast_mul, -Int.natCast_add, Try.results74]
  refine gwp_loop (fun k s => ∃ (out : List Bool) (c : Nat), s.F 0 = bG a ∧ s.F 1 = bG b ∧ s.F 6 = .p (.int .i64 (c : Int)) ∧ s.F 7 = .p (.int .i64 (out.length : Int)) ∧ Grow s.G (d + 1) 39 1 (out.map eB) (s.F 5) ∧ agree d s.G G ∧ s.G (d + 1) 43 = [] ∧ s.G (d + 1) 26 = [] ∧ s.G (d + 1) 31 = [] ∧
      c ≤ 1 ∧ out.length + k = max a.length b.length + 1 ∧ (k = 0 → c = 0) ∧ nv out + 2 ^ out.length * (c + nv (a.drop out.length) + nv (b.drop out.length)) = nv a + nv b) (m := max a.length b.length + 1)
    ⟨[], 0, by simp -implicitDefEqProofs [-Int.natCast_ediv, -Int.natCast_emod, -Int.natCast_mul, -Int.natCast_add, ], by simp -implicitDefEqProofs [-Int.natCast_ediv, -Int.natCast_emod, -Int.natCast_mul, -Int.natCast_add, ], by simp -implicitDefEqProofs [-Int.natCast_ediv, -Int.natCast_emod, -Int.natCast_mul, -Int.natCast_add, ], by simp -implicitDefEqProofs [-Int.natCast_ediv, -Int.natCast_emod, -Int.natCast_mul, -Int.natCast_add, ], by simp -implicitDefEqProofs [-Int.natCast_ediv, -Int.natCast_emod, -Int.natCast_mul, -Int.natCast_add, ]; exact Grow.start (by simp), by simp -implicitDefEqProofs [-Int.natCast_ediv, -Int.natCast_emod, -Int.natCast_mul, -Int.natCast_add, ], by simp -implicitDefEqProofs [-Int.natCast_ediv, -Int.natCast_emod, -Int.natCast_mul, -Int.natCast_add, ], by simp -implicitDefEqProofs [-Int.natCast_ediv, -Int.natCast_emod, -Int.natCast_mul, -Int.natCast_add, ], by simp -implicitDefEqProofs [-Int.natCast_ediv, -Int.natCast_emod, -Int.natCast_mul, -Int.natCast_add, ], by omega, by simp, by simp, by simp [nv]⟩ ?_
  rintro k s ⟨out, c, h0, h1, h6, h7, h5, hA, g43, g26, g31, hc, hk, hk0, h4⟩
  by_cases hend : ¬ out.length < a.length ∧ ¬ out.length < b.length ∧ c = 0
  · obtain ⟨e1, e2, rfl⟩ := hend
    have hnv : nv out = nv a + nv b := by
      rw [← h4, List.drop_eq_nil_of_le (by omega), List.drop_eq_nil_of_le (by omega)]; simp [nv]
    simp -implicitDefEqProofs [-Int.natCast_ediv, -Int.natCast_emod, -Int.natCast_mul, -Int.natCast_add, h0, h1, h6, h7, e1, e2]
    refine callp (trim_ev out (by omega) _ _) ?_ (hw := by simp [h5.wk]) (hf := g43)
    simp -implicitDefEqProofs [-Int.natCast_ediv, -Int.natCast_emod, -Int.natCast_mul, -Int.natCast_add, Try.results74, hA, hnv]
  · have wl : IntKind.i64.wrap ((out.length : Int) + 1) = ((out.length + 1 : Nat) : Int) := by rw [wi64]; omega
    have ws0 : IntKind.i64.wrap ((c : Int) + 1) = ((c + 1 : Nat) : Int) := by rw [wi64]; omega
    have ws1 : IntKind.i64.wrap (((c + 1 : Nat) : Int) + 1) = ((c + 2 : Nat) : Int) := by rw [wi64]; omega
    have hk1 : 0 < k := by
      rcases Nat.eq_zero_or_pos k with h | h
      · exact absurd ⟨by omega, by omega, hk0 h⟩ hend
      · exact h
    by_cases e1 : out.length < a.length
    · cases hA' : bitAt a out.length <;> cases hB' : bitAt b out.length
      · have hn : c = c + (bitAt a out.length).toNat + (bitAt b out.length).toNat := by rw [hA', hB']; simp
        obtain ⟨k1, k2⟩ := half_of (c) (by omega)
        simp -implicitDefEqProofs [-Int.natCast_ediv, -Int.natCast_emod, -Int.natCast_mul, -Int.natCast_add, h0, h1, h6, h7, e1]
        refine callp (bit_ev a out.length _ _) ?_ (hf := g26)
        simp -implicitDefEqProofs [-Int.natCast_ediv, -Int.natCast_emod, -Int.natCast_mul, -Int.natCast_add, h0, h1, h6, h7, hA', ws0]
        refine callp (bit_ev b out.length _ _) ?_ (hf := g31)
        simp -implicitDefEqProofs [-Int.natCast_ediv, -Int.natCast_emod, -Int.natCast_mul, -Int.natCast_add, h0, h1, h6, h7, hB', ws0, ws1]
        refine append_grow (es := out.map eB) (xs := [eB ((c) % 2 == 1)]) h5 (by simp; exact ⟨rfl, rfl⟩) (by simp -implicitDefEqProofs [-Int.natCast_ediv, -Int.natCast_emod, -Int.natCast_mul, -Int.natCast_add, k1, eB, srcOf]) rfl (by simp) (by simp [eB]) (by simp; omega) (by simp) ?_
        intro G' hg hf ha
        simp -implicitDefEqProofs [-Int.natCast_ediv, -Int.natCast_emod, -Int.natCast_mul, -Int.natCast_add, h0, h1, h6, h7, k2, wl]
        exact add_next hn h4 hc hk hk1 hg (ha _ _ (by omega) hA) ((hf _ _ (by omega)).trans g43) ((hf _ _ (by omega)).trans g26) ((hf _ _ (by omega)).trans g31)
      · have hn : c + 1 = c + (bitAt a out.length).toNat + (bitAt b out.length).toNat := by rw [hA', hB']; simp
        obtain ⟨k1, k2⟩ := half_of (c + 1) (by omega)
        simp -implicitDefEqProofs [-Int.natCast_ediv, -Int.natCast_emod, -Int.natCast_mul, -Int.natCast_add, h0, h1, h6, h7, e1]
        refine callp (bit_ev a out.length _ _) ?_ (hf := g26)
        simp -implicitDefEqProofs [-Int.natCast_ediv, -Int.natCast_emod, -Int.natCast_mul, -Int.natCast_add, h0, h1, h6, h7, hA', ws0]
        refine callp (bit_ev b out.length _ _) ?_ (hf := g31)
        simp -implicitDefEqProofs [-Int.natCast_ediv, -Int.natCast_emod, -Int.natCast_mul, -Int.natCast_add, h0, h1, h6, h7, hB', ws0, ws1]
        refine append_grow (es := out.map eB) (xs := [eB ((c + 1) % 2 == 1)]) h5 (by simp; exact ⟨rfl, rfl⟩) (by simp -implicitDefEqProofs [-Int.natCast_ediv, -Int.natCast_emod, -Int.natCast_mul, -Int.natCast_add, k1, eB, srcOf]) rfl (by simp) (by simp [eB]) (by simp; omega) (by simp) ?_
        intro G' hg hf ha
        simp -implicitDefEqProofs [-Int.natCast_ediv, -Int.natCast_emod, -Int.natCast_mul, -Int.natCast_add, h0, h1, h6, h7, k2, wl]
        exact add_next hn h4 hc hk hk1 hg (ha _ _ (by omega) hA) ((hf _ _ (by omega)).trans g43) ((hf _ _ (by omega)).trans g26) ((hf _ _ (by omega)).trans g31)
      · have hn : c + 1 = c + (bitAt a out.length).toNat + (bitAt b out.length).toNat := by rw [hA', hB']; simp
        obtain ⟨k1, k2⟩ := half_of (c + 1) (by omega)
        simp -implicitDefEqProofs [-Int.natCast_ediv, -Int.natCast_emod, -Int.natCast_mul, -Int.natCast_add, h0, h1, h6, h7, e1]
        refine callp (bit_ev a out.length _ _) ?_ (hf := g26)
        simp -implicitDefEqProofs [-Int.natCast_ediv, -Int.natCast_emod, -Int.natCast_mul, -Int.natCast_add, h0, h1, h6, h7, hA', ws0]
        refine callp (bit_ev b out.length _ _) ?_ (hf := g31)
        simp -implicitDefEqProofs [-Int.natCast_ediv, -Int.natCast_emod, -Int.natCast_mul, -Int.natCast_add, h0, h1, h6, h7, hB', ws0, ws1]
        refine append_grow (es := out.map eB) (xs := [eB ((c + 1) % 2 == 1)]) h5 (by simp; exact ⟨rfl, rfl⟩) (by simp -implicitDefEqProofs [-Int.natCast_ediv, -Int.natCast_emod, -Int.natCast_mul, -Int.natCast_add, k1, eB, srcOf]) rfl (by simp) (by simp [eB]) (by simp; omega) (by simp) ?_
        intro G' hg hf ha
        simp -implicitDefEqProofs [-Int.natCast_ediv, -Int.natCast_emod, -Int.natCast_mul, -Int.natCast_add, h0, h1, h6, h7, k2, wl]
        exact add_next hn h4 hc hk hk1 hg (ha _ _ (by omega) hA) ((hf _ _ (by omega)).trans g43) ((hf _ _ (by omega)).trans g26) ((hf _ _ (by omega)).trans g31)
      · have hn : c + 2 = c + (bitAt a out.length).toNat + (bitAt b out.length).toNat := by rw [hA', hB']; simp
        obtain ⟨k1, k2⟩ := half_of (c + 2) (by omega)
        simp -implicitDefEqProofs [-Int.natCast_ediv, -Int.natCast_emod, -Int.natCast_mul, -Int.natCast_add, h0, h1, h6, h7, e1]
        refine callp (bit_ev a out.length _ _) ?_ (hf := g26)
        simp -implicitDefEqProofs [-Int.natCast_ediv, -Int.natCast_emod, -Int.natCast_mul, -Int.natCast_add, h0, h1, h6, h7, hA', ws0]
        refine callp (bit_ev b out.length _ _) ?_ (hf := g31)
        simp -implicitDefEqProofs [-Int.natCast_ediv, -Int.natCast_emod, -Int.natCast_mul, -Int.natCast_add, h0, h1, h6, h7, hB', ws0, ws1]
        refine append_grow (es := out.map eB) (xs := [eB ((c + 2) % 2 == 1)]) h5 (by simp; exact ⟨rfl, rfl⟩) (by simp -implicitDefEqProofs [-Int.natCast_ediv, -Int.natCast_emod, -Int.natCast_mul, -Int.natCast_add, k1, eB, srcOf]) rfl (by simp) (by simp [eB]) (by simp; omega) (by simp) ?_
        intro G' hg hf ha
        simp -implicitDefEqProofs [-Int.natCast_ediv, -Int.natCast_emod, -Int.natCast_mul, -Int.natCast_add, h0, h1, h6, h7, k2, wl]
        have nx := add_next hn h4 hc hk hk1 hg (ha _ _ (by omega) hA) ((hf _ _ (by omega)).trans g43) ((hf _ _ (by omega)).trans g26) ((hf _ _ (by omega)).trans g31)
        rw [show (c + 2) / 2 = c / 2 + 1 by omega, show (c + 2) % 2 = c % 2 by omega] at nx
        exact nx
    · have hA' := bitAt_far (Nat.not_lt.1 e1)
      by_cases e2 : out.length < b.length
      · cases hB' : bitAt b out.length
        · have hn : c = c + (bitAt a out.length).toNat + (bitAt b out.length).toNat := by rw [hA', hB']; simp
          obtain ⟨k1, k2⟩ := half_of (c) (by omega)
          simp -implicitDefEqProofs [-Int.natCast_ediv, -Int.natCast_emod, -Int.natCast_mul, -Int.natCast_add, h0, h1, h6, h7, e1, e2]
          refine callp (bit_ev a out.length _ _) ?_ (hf := g26)
          simp -implicitDefEqProofs [-Int.natCast_ediv, -Int.natCast_emod, -Int.natCast_mul, -Int.natCast_add, h0, h1, h6, h7, hA', ws0]
          refine callp (bit_ev b out.length _ _) ?_ (hf := g31)
          simp -implicitDefEqProofs [-Int.natCast_ediv, -Int.natCast_emod, -Int.natCast_mul, -Int.natCast_add, h0, h1, h6, h7, hB', ws0, ws1]
          refine append_grow (es := out.map eB) (xs := [eB ((c) % 2 == 1)]) h5 (by simp; exact ⟨rfl, rfl⟩) (by simp -implicitDefEqProofs [-Int.natCast_ediv, -Int.natCast_emod, -Int.natCast_mul, -Int.natCast_add, k1, eB, srcOf]) rfl (by simp) (by simp [eB]) (by simp; omega) (by simp) ?_
          intro G' hg hf ha
          simp -implicitDefEqProofs [-Int.natCast_ediv, -Int.natCast_emod, -Int.natCast_mul, -Int.natCast_add, h0, h1, h6, h7, k2, wl]
          exact add_next hn h4 hc hk hk1 hg (ha _ _ (by omega) hA) ((hf _ _ (by omega)).trans g43) ((hf _ _ (by omega)).trans g26) ((hf _ _ (by omega)).trans g31)
        · have hn : c + 1 = c + (bitAt a out.length).toNat + (bitAt b out.length).toNat := by rw [hA', hB']; simp
          obtain ⟨k1, k2⟩ := half_of (c + 1) (by omega)
          simp -implicitDefEqProofs [-Int.natCast_ediv, -Int.natCast_emod, -Int.natCast_mul, -Int.natCast_add, h0, h1, h6, h7, e1, e2]
          refine callp (bit_ev a out.length _ _) ?_ (hf := g26)
          simp -implicitDefEqProofs [-Int.natCast_ediv, -Int.natCast_emod, -Int.natCast_mul, -Int.natCast_add, h0, h1, h6, h7, hA', ws0]
          refine callp (bit_ev b out.length _ _) ?_ (hf := g31)
          simp -implicitDefEqProofs [-Int.natCast_ediv, -Int.natCast_emod, -Int.natCast_mul, -Int.natCast_add, h0, h1, h6, h7, hB', ws0, ws1]
          refine append_grow (es := out.map eB) (xs := [eB ((c + 1) % 2 == 1)]) h5 (by simp; exact ⟨rfl, rfl⟩) (by simp -implicitDefEqProofs [-Int.natCast_ediv, -Int.natCast_emod, -Int.natCast_mul, -Int.natCast_add, k1, eB, srcOf]) rfl (by simp) (by simp [eB]) (by simp; omega) (by simp) ?_
          intro G' hg hf ha
          simp -implicitDefEqProofs [-Int.natCast_ediv, -Int.natCast_emod, -Int.natCast_mul, -Int.natCast_add, h0, h1, h6, h7, k2, wl]
          exact add_next hn h4 hc hk hk1 hg (ha _ _ (by omega) hA) ((hf _ _ (by omega)).trans g43) ((hf _ _ (by omega)).trans g26) ((hf _ _ (by omega)).trans g31)
      · have hB' := bitAt_far (Nat.not_lt.1 e2)
        have hc0 : 0 < c := by
          rcases Nat.eq_zero_or_pos c with h | h
          · exact absurd ⟨e1, e2, h⟩ hend
          · exact h
        have hn : c = c + (bitAt a out.length).toNat + (bitAt b out.length).toNat := by rw [hA', hB']; simp
        obtain ⟨k1, k2⟩ := half_of (c) (by omega)
        simp -implicitDefEqProofs [-Int.natCast_ediv, -Int.natCast_emod, -Int.natCast_mul, -Int.natCast_add, h0, h1, h6, h7, e1, e2, hc0]
        refine callp (bit_ev a out.length _ _) ?_ (hf := g26)
        simp -implicitDefEqProofs [-Int.natCast_ediv, -Int.natCast_emod, -Int.natCast_mul, -Int.natCast_add, h0, h1, h6, h7, hA', ws0]
        refine callp (bit_ev b out.length _ _) ?_ (hf := g31)
        simp -implicitDefEqProofs [-Int.natCast_ediv, -Int.natCast_emod, -Int.natCast_mul, -Int.natCast_add, h0, h1, h6, h7, hB', ws0, ws1]
        refine append_grow (es := out.map eB) (xs := [eB ((c) % 2 == 1)]) h5 (by simp; exact ⟨rfl, rfl⟩) (by simp -implicitDefEqProofs [-Int.natCast_ediv, -Int.natCast_emod, -Int.natCast_mul, -Int.natCast_add, k1, eB, srcOf]) rfl (by simp) (by simp [eB]) (by simp; omega) (by simp) ?_
        intro G' hg hf ha
        simp -implicitDefEqProofs [-Int.natCast_ediv, -Int.natCast_emod, -Int.natCast_mul, -Int.natCast_add, h0, h1, h6, h7, k2, wl]
        exact add_next hn h4 hc hk hk1 hg (ha _ _ (by omega) hA) ((hf _ _ (by omega)).trans g43) ((hf _ _ (by omega)).trans g26) ((hf _ _ (by omega)).trans g31)
theorem less_step {a b : List Bool} {k : Nat} (hl : a.length = b.length) (hk : k < a.length) : decide (nv (a.take (k + 1)) < nv (b.take (k + 1))) = (if bitAt a k = bitAt b k then decide (nv (a.take k) < nv (b.take k)) else bitAt b k) := by
  have ta := nv_take_succ a k hk
  have tb := nv_take_succ b k (by omega)
  have la := nv_lt (a.take k)
  have lb := nv_lt (b.take k)
  rw [List.length_take, Nat.min_eq_left (by omega)] at la lb
  rw [ta, tb]
  unfold bitAt
  cases hA : a.getD k false <;> cases hB : b.getD k false <;> simp <;> omega
theorem less_ev (m n : Nat) (hm : (bof m).length ≤ 100000) (d : Nat) (G : Heap) : Tel Try.prog TB d 77 [bG (bof m), bG (bof n)] G (.p (.bool (decide (m < n)))) G := by
  refine Tel.intro mix Try.func77 rfl (Nat.le_of_ble_eq_true rfl) {} (by kernel_rfl) (by kernel_rfl) ?_
  by_cases h : (bof m).length = (bof n).length
  · have w1 : IntKind.i64.wrap (((bof n).length : Int) - 1) = ((bof n).length : Int) - 1 := by rw [wi64]; omega
    simp -implicitDefEqProofs [-Int.natCast_ediv, -Int.natCast_emod, -Int.natCast_mul, -Int.natCast_add, Try.results77, h, w1]
    have e0 : decide (m < n) = decide (nv ((bof m).take (bof n).length) < nv ((bof n).take (bof n).length)) := by
      rw [← h, List.take_length, h, List.take_length, nv_bof, nv_bof]
    rw [e0]
    have hm' : (bof n).length ≤ 100000 := by omega
    generalize bof m = a at *
    generalize bof n = b at *
    clear e0
    refine gwp_loop (fun k s => s.F 0 = bG a ∧ s.F 1 = bG b ∧ s.F 5 = .p (.int .i64 ((k : Int) - 1)) ∧ s.G = cut d G ∧ k ≤ a.length ∧ decide (nv (a.take b.length) < nv (b.take b.length)) = decide (nv (a.take k) < nv (b.take k))) (m := b.length)
      ⟨by simp -implicitDefEqProofs [-Int.natCast_ediv, -Int.natCast_emod, -Int.natCast_mul, -Int.natCast_add, ], by simp -implicitDefEqProofs [-Int.natCast_ediv, -Int.natCast_emod, -Int.natCast_mul, -Int.natCast_add, ], by simp -implicitDefEqProofs [-Int.natCast_ediv, -Int.natCast_emod, -Int.natCast_mul, -Int.natCast_add, ], by simp -implicitDefEqProofs [-Int.natCast_ediv, -Int.natCast_emod, -Int.natCast_mul, -Int.natCast_add, ], by omega, rfl⟩ ?_
    rintro k s ⟨h0, h1, h5, hG, hk, hd⟩
    rw [hd]
    cases k with
    | zero => simp -implicitDefEqProofs [-Int.natCast_ediv, -Int.natCast_emod, -Int.natCast_mul, -Int.natCast_add, h0, h1, h5, hG, nv]
    | succ k =>
      have st := less_step h (k := k) (by omega)
      rw [st]
      rw [st] at hd
      have e1 : (((k + 1 : Nat) : Int) - 1) = (k : Int) := by omega
      rw [e1] at h5
      have w2 : IntKind.i64.wrap ((k : Int) - 1) = (k : Int) - 1 := by rw [wi64]; omega
      have i1 := bit_at a k (by omega)
      have i2 := bit_at b k (by omega)
      cases hA : bitAt a k <;> cases hB : bitAt b k <;> rw [hA] at i1 <;> rw [hB] at i2 <;> rw [hA, hB] at hd <;> simp only [if_true, Bool.false_eq_true, Bool.true_eq_false, if_false, reduceIte] at hd ⊢
      · simp -implicitDefEqProofs [-Int.natCast_ediv, -Int.natCast_emod, -Int.natCast_mul, -Int.natCast_add, h0, h1, h5, hG, i1, i2, w2, -List.getElem?_map]
        exact ⟨k, Nat.lt_succ_self k, rfl, by omega, Iff.rfl⟩
      · simp -implicitDefEqProofs [-Int.natCast_ediv, -Int.natCast_emod, -Int.natCast_mul, -Int.natCast_add, h0, h1, h5, hG, i1, i2, w2, -List.getElem?_map]
      · simp -implicitDefEqProofs [-Int.natCast_ediv, -Int.natCast_emod, -Int.natCast_mul, -Int.natCast_add, h0, h1, h5, hG, i1, i2, w2, -List.getElem?_map]
      · simp -implicitDefEqProofs [-Int.natCast_ediv, -Int.natCast_emod, -Int.natCast_mul, -Int.natCast_add, h0, h1, h5, hG, i1, i2, w2, -List.getElem?_map]
        exact ⟨k, Nat.lt_succ_self k, rfl, by omega, Iff.rfl⟩
  · have e : ((bof m).length < (bof n).length) = (m < n) := by
      refine propext ⟨fun h1 => bof_length_eq_of (by omega), fun h1 => ?_⟩
      rcases Nat.lt_or_ge (bof m).length (bof n).length with h2 | h2
      · exact h2
      · have := bof_length_eq_of (a := n) (b := m) (by omega)
        omega
    have hz : ¬ (((bof m).length : Int) = ((bof n).length : Int)) := by omega
    simp -implicitDefEqProofs [-Int.natCast_ediv, -Int.natCast_emod, -Int.natCast_mul, -Int.natCast_add, Try.results77, hz, e]
theorem wl0 : IntKind.i64.wrap 0 = 0 := by decide
theorem wl1 : IntKind.i64.wrap 1 = 1 := by decide
theorem wl2 : IntKind.i64.wrap 2 = 2 := by decide
theorem wlm1 : IntKind.i64.wrap (-1) = -1 := by decide
theorem wlm2 : IntKind.i64.wrap (-2) = -2 := by decide
theorem sub_arith {o p x y u v s w q : Nat} (h4 : o + x = y + w * p) (h : q + v + w = u + 2 * s) : o + p * q + (x + p * v) = y + p * u + s * (p * 2) := by
  have e1 : p * q + p * v + w * p = p * u + s * (p * 2) := by
    have : p * (q + v + w) = p * (u + 2 * s) := by rw [h]
    grind
  omega
theorem sub_round {a b out : List Bool} {w q s : Nat} (ho : out.length < a.length) (hq : q ≤ 1) (he : q + (bitAt b out.length).toNat + w = (bitAt a out.length).toNat + 2 * s)
    (h4 : nv out + nv (b.take out.length) = nv (a.take out.length) + w * 2 ^ out.length) :
    nv (out ++ [q == 1]) + nv (b.take (out.length + 1)) = nv (a.take (out.length + 1)) + s * 2 ^ (out.length + 1) := by
  have hnv : nv (out ++ [q == 1]) = nv out + 2 ^ out.length * q := by
    rw [nv_append]
    have : q = 0 ∨ q = 1 := by omega
    rcases this with e | e <;> simp [nv, e]
  have hb2 : nv (b.take (out.length + 1)) = nv (b.take out.length) + 2 ^ out.length * (b.getD out.length false).toNat := by
    by_cases h : out.length < b.length
    · exact nv_take_succ b _ h
    · rw [List.take_of_length_le (by omega), List.take_of_length_le (by omega)]
      simp [List.getD_eq_getElem?_getD, List.getElem?_eq_none (by omega : b.length ≤ out.length)]
  rw [hnv, nv_take_succ a _ ho, Nat.pow_succ, hb2]
  exact sub_arith h4 he
theorem sub_end {a b out : List Bool} {w : Nat} (hw : w ≤ 1) (hle : nv b ≤ nv a) (hd : out.length = a.length) (h4 : nv out + nv (b.take out.length) = nv (a.take out.length) + w * 2 ^ out.length) : nv out = nv a - nv b := by
  rw [hd, List.take_length] at h4
  have lo := nv_lt out
  rw [hd] at lo
  have sp := nv_split b a.length
  have la := nv_lt a
  have hbt : nv (b.take a.length) = nv b := by
    rcases Nat.lt_or_ge a.length b.length with h | h
    · rw [Nat.min_eq_left (by omega)] at sp
      rcases Nat.eq_zero_or_pos (nv (b.drop a.length)) with e | e
      · rw [e] at sp; simpa using sp.symm
      · have : 2 ^ a.length * 1 ≤ 2 ^ a.length * nv (b.drop a.length) := Nat.mul_le_mul_left _ e
        omega
    · rw [List.take_of_length_le h]
  rw [hbt] at h4
  have : w = 0 := by
    rcases Nat.eq_zero_or_pos w with e | e
    · exact e
    · have : w = 1 := by omega
      subst this; omega
  subst this
  omega
theorem sub_next {d k q s w : Nat} {a b out : List Bool} {G G' : Heap} (hs : s ≤ 1) (hq : q ≤ 1) (he : q + (bitAt b out.length).toNat + w = (bitAt a out.length).toNat + 2 * s)
    (h4 : nv out + nv (b.take out.length) = nv (a.take out.length) + w * 2 ^ out.length) (hk : out.length + (k + 1) = a.length)
    (hg : get G' (d + 1, 35, 0) = some (.tok (out.map eB ++ [eB (q == 1)]).length 1)) (hA : agree d G' G) (g37 : G' (d + 1) 37 = []) (g19 : G' (d + 1) 19 = []) (g24 : G' (d + 1) 24 = []) :
    ∃ k', k' < k + 1 ∧ ∃ (x : List Bool) (x_1 : Nat), (s : Int) = (x_1 : Int) ∧ ((out.length + 1 : Nat) : Int) = (x.length : Int) ∧ Grow G' (d + 1) 35 1 (x.map eB) (.tsl (out.map eB ++ [eB (q == 1)]) (d + 1, 35, 0)) ∧ agree d G' G ∧
      G' (d + 1) 37 = [] ∧ G' (d + 1) 19 = [] ∧ G' (d + 1) 24 = [] ∧ x_1 ≤ 1 ∧ x.length + k' = a.length ∧
      nv x + nv (b.take x.length) = nv (a.take x.length) + x_1 * 2 ^ x.length :=
  ⟨k, Nat.lt_succ_self k, out ++ [q == 1], s, rfl, by simp, .inr ⟨by simp, by simpa using hg⟩, hA, g37, g19, g24, hs, by simp; omega, by simpa using sub_round (by omega) hq he h4⟩
theorem sub_ev (a b : List Bool) (ha : a.length ≤ 100000) (hle : nv b ≤ nv a) (d : Nat) (G : Heap) : Tel Try.prog TB d 78 [bG a, bG b] G (bG (bof (nv a - nv b))) G := by
  refine Tel.intro mix Try.func78 rfl (Nat.le_of_ble_eq_true rfl) {} (by kernel_rfl) (by kernel_rfl) ?_
  simp -implicitDefEqProofs [-Int.natCast_ediv, -Int.natCast_emod, -Int.natCast_mul, -Int.natCast_add, Try.results78]
  refine gwp_loop (fun k s => ∃ (out : List Bool) (c : Nat), s.F 0 = bG a ∧ s.F 1 = bG b ∧ s.F 6 = .p (.int .i64 (c : Int)) ∧ s.F 7 = .p (.int .i64 (out.length : Int)) ∧ Grow s.G (d + 1) 35 1 (out.map eB) (s.F 5) ∧ agree d s.G G ∧ s.G (d + 1) 37 = [] ∧ s.G (d + 1) 19 = [] ∧ s.G (d + 1) 24 = [] ∧
      c ≤ 1 ∧ out.length + k = a.length ∧ nv out + nv (b.take out.length) = nv (a.take out.length) + c * 2 ^ out.length) (m := a.length)
    ⟨[], 0, by simp -implicitDefEqProofs [-Int.natCast_ediv, -Int.natCast_emod, -Int.natCast_mul, -Int.natCast_add, ], by simp -implicitDefEqProofs [-Int.natCast_ediv, -Int.natCast_emod, -Int.natCast_mul, -Int.natCast_add, ], by simp -implicitDefEqProofs [-Int.natCast_ediv, -Int.natCast_emod, -Int.natCast_mul, -Int.natCast_add, ], by simp -implicitDefEqProofs [-Int.natCast_ediv, -Int.natCast_emod, -Int.natCast_mul, -Int.natCast_add, ], by simp -implicitDefEqProofs [-Int.natCast_ediv, -Int.natCast_emod, -Int.natCast_mul, -Int.natCast_add, ]; exact Grow.start (by simp), by simp -implicitDefEqProofs [-Int.natCast_ediv, -Int.natCast_emod, -Int.natCast_mul, -Int.natCast_add, ], by simp -implicitDefEqProofs [-Int.natCast_ediv, -Int.natCast_emod, -Int.natCast_mul, -Int.natCast_add, ], by simp -implicitDefEqProofs [-Int.natCast_ediv, -Int.natCast_emod, -Int.natCast_mul, -Int.natCast_add, ], by simp -implicitDefEqProofs [-Int.natCast_ediv, -Int.natCast_emod, -Int.natCast_mul, -Int.natCast_add, ], by omega, by simp, by simp [nv]⟩ ?_
  rintro k s ⟨out, c, h0, h1, h6, h7, h5, hA, g37, g19, g24, hc, hk, h4⟩
  cases k with
  | zero =>
    have e1 : ¬ (out.length < a.length) := by omega
    have hnv := sub_end hc hle (by omega) h4
    simp -implicitDefEqProofs [-Int.natCast_ediv, -Int.natCast_emod, -Int.natCast_mul, -Int.natCast_add, h0, h1, h6, h7, e1]
    refine callp (trim_ev out (by omega) _ _) ?_ (hw := by simp [h5.wk]) (hf := g37)
    simp -implicitDefEqProofs [-Int.natCast_ediv, -Int.natCast_emod, -Int.natCast_mul, -Int.natCast_add, Try.results78, hA, hnv]
  | succ k =>
    have e1 : out.length < a.length := by omega
    have wl : IntKind.i64.wrap ((out.length : Int) + 1) = ((out.length + 1 : Nat) : Int) := by rw [wi64]; omega
    have cc : c = 0 ∨ c = 1 := by omega
    rcases cc with rfl | rfl <;> cases hA' : bitAt a out.length <;> cases hB' : bitAt b out.length
    · have he : 0 + (bitAt b out.length).toNat + 0 = (bitAt a out.length).toNat + 2 * 0 := by rw [hA', hB']; rfl
      simp -implicitDefEqProofs [-Int.natCast_ediv, -Int.natCast_emod, -Int.natCast_mul, -Int.natCast_add, h0, h1, h6, h7, e1, wl0, wl1, wl2, wlm1, wlm2]
      refine callp (bit_ev a out.length _ _) ?_ (hf := g19)
      simp -implicitDefEqProofs [-Int.natCast_ediv, -Int.natCast_emod, -Int.natCast_mul, -Int.natCast_add, h0, h1, h6, h7, hA', wl0, wl1, wl2, wlm1, wlm2]
      refine callp (bit_ev b out.length _ _) ?_ (hf := g24)
      simp -implicitDefEqProofs [-Int.natCast_ediv, -Int.natCast_emod, -Int.natCast_mul, -Int.natCast_add, h0, h1, h6, h7, hB', wl0, wl1, wl2, wlm1, wlm2]
      refine append_grow (es := out.map eB) (xs := [eB (0 == 1)]) h5 (by simp; exact ⟨rfl, rfl⟩) (by simp -implicitDefEqProofs [-Int.natCast_ediv, -Int.natCast_emod, -Int.natCast_mul, -Int.natCast_add, eB, srcOf]) rfl (by simp) (by simp [eB]) (by simp; omega) (by simp) ?_
      intro G' hg hf ha
      simp -implicitDefEqProofs [-Int.natCast_ediv, -Int.natCast_emod, -Int.natCast_mul, -Int.natCast_add, h0, h1, h6, h7, wl, wl0, wl1, wl2, wlm1, wlm2]
      exact sub_next (q := 0) (s := 0) (by omega) (by omega) he h4 hk hg (ha _ _ (by omega) hA) ((hf _ _ (by omega)).trans g37) ((hf _ _ (by omega)).trans g19) ((hf _ _ (by omega)).trans g24)
    · have he : 1 + (bitAt b out.length).toNat + 0 = (bitAt a out.length).toNat + 2 * 1 := by rw [hA', hB']; rfl
      simp -implicitDefEqProofs [-Int.natCast_ediv, -Int.natCast_emod, -Int.natCast_mul, -Int.natCast_add, h0, h1, h6, h7, e1, wl0, wl1, wl2, wlm1, wlm2]
      refine callp (bit_ev a out.length _ _) ?_ (hf := g19)
      simp -implicitDefEqProofs [-Int.natCast_ediv, -Int.natCast_emod, -Int.natCast_mul, -Int.natCast_add, h0, h1, h6, h7, hA', wl0, wl1, wl2, wlm1, wlm2]
      refine callp (bit_ev b out.length _ _) ?_ (hf := g24)
      simp -implicitDefEqProofs [-Int.natCast_ediv, -Int.natCast_emod, -Int.natCast_mul, -Int.natCast_add, h0, h1, h6, h7, hB', wl0, wl1, wl2, wlm1, wlm2]
      refine append_grow (es := out.map eB) (xs := [eB (1 == 1)]) h5 (by simp; exact ⟨rfl, rfl⟩) (by simp -implicitDefEqProofs [-Int.natCast_ediv, -Int.natCast_emod, -Int.natCast_mul, -Int.natCast_add, eB, srcOf]) rfl (by simp) (by simp [eB]) (by simp; omega) (by simp) ?_
      intro G' hg hf ha
      simp -implicitDefEqProofs [-Int.natCast_ediv, -Int.natCast_emod, -Int.natCast_mul, -Int.natCast_add, h0, h1, h6, h7, wl, wl0, wl1, wl2, wlm1, wlm2]
      exact sub_next (q := 1) (s := 1) (by omega) (by omega) he h4 hk hg (ha _ _ (by omega) hA) ((hf _ _ (by omega)).trans g37) ((hf _ _ (by omega)).trans g19) ((hf _ _ (by omega)).trans g24)
    · have he : 1 + (bitAt b out.length).toNat + 0 = (bitAt a out.length).toNat + 2 * 0 := by rw [hA', hB']; rfl
      simp -implicitDefEqProofs [-Int.natCast_ediv, -Int.natCast_emod, -Int.natCast_mul, -Int.natCast_add, h0, h1, h6, h7, e1, wl0, wl1, wl2, wlm1, wlm2]
      refine callp (bit_ev a out.length _ _) ?_ (hf := g19)
      simp -implicitDefEqProofs [-Int.natCast_ediv, -Int.natCast_emod, -Int.natCast_mul, -Int.natCast_add, h0, h1, h6, h7, hA', wl0, wl1, wl2, wlm1, wlm2]
      refine callp (bit_ev b out.length _ _) ?_ (hf := g24)
      simp -implicitDefEqProofs [-Int.natCast_ediv, -Int.natCast_emod, -Int.natCast_mul, -Int.natCast_add, h0, h1, h6, h7, hB', wl0, wl1, wl2, wlm1, wlm2]
      refine append_grow (es := out.map eB) (xs := [eB (1 == 1)]) h5 (by simp; exact ⟨rfl, rfl⟩) (by simp -implicitDefEqProofs [-Int.natCast_ediv, -Int.natCast_emod, -Int.natCast_mul, -Int.natCast_add, eB, srcOf]) rfl (by simp) (by simp [eB]) (by simp; omega) (by simp) ?_
      intro G' hg hf ha
      simp -implicitDefEqProofs [-Int.natCast_ediv, -Int.natCast_emod, -Int.natCast_mul, -Int.natCast_add, h0, h1, h6, h7, wl, wl0, wl1, wl2, wlm1, wlm2]
      exact sub_next (q := 1) (s := 0) (by omega) (by omega) he h4 hk hg (ha _ _ (by omega) hA) ((hf _ _ (by omega)).trans g37) ((hf _ _ (by omega)).trans g19) ((hf _ _ (by omega)).trans g24)
    · have he : 0 + (bitAt b out.length).toNat + 0 = (bitAt a out.length).toNat + 2 * 0 := by rw [hA', hB']; rfl
      simp -implicitDefEqProofs [-Int.natCast_ediv, -Int.natCast_emod, -Int.natCast_mul, -Int.natCast_add, h0, h1, h6, h7, e1, wl0, wl1, wl2, wlm1, wlm2]
      refine callp (bit_ev a out.length _ _) ?_ (hf := g19)
      simp -implicitDefEqProofs [-Int.natCast_ediv, -Int.natCast_emod, -Int.natCast_mul, -Int.natCast_add, h0, h1, h6, h7, hA', wl0, wl1, wl2, wlm1, wlm2]
      refine callp (bit_ev b out.length _ _) ?_ (hf := g24)
      simp -implicitDefEqProofs [-Int.natCast_ediv, -Int.natCast_emod, -Int.natCast_mul, -Int.natCast_add, h0, h1, h6, h7, hB', wl0, wl1, wl2, wlm1, wlm2]
      refine append_grow (es := out.map eB) (xs := [eB (0 == 1)]) h5 (by simp; exact ⟨rfl, rfl⟩) (by simp -implicitDefEqProofs [-Int.natCast_ediv, -Int.natCast_emod, -Int.natCast_mul, -Int.natCast_add, eB, srcOf]) rfl (by simp) (by simp [eB]) (by simp; omega) (by simp) ?_
      intro G' hg hf ha
      simp -implicitDefEqProofs [-Int.natCast_ediv, -Int.natCast_emod, -Int.natCast_mul, -Int.natCast_add, h0, h1, h6, h7, wl, wl0, wl1, wl2, wlm1, wlm2]
      exact sub_next (q := 0) (s := 0) (by omega) (by omega) he h4 hk hg (ha _ _ (by omega) hA) ((hf _ _ (by omega)).trans g37) ((hf _ _ (by omega)).trans g19) ((hf _ _ (by omega)).trans g24)
    · have he : 1 + (bitAt b out.length).toNat + 1 = (bitAt a out.length).toNat + 2 * 1 := by rw [hA', hB']; rfl
      simp -implicitDefEqProofs [-Int.natCast_ediv, -Int.natCast_emod, -Int.natCast_mul, -Int.natCast_add, h0, h1, h6, h7, e1, wl0, wl1, wl2, wlm1, wlm2]
      refine callp (bit_ev a out.length _ _) ?_ (hf := g19)
      simp -implicitDefEqProofs [-Int.natCast_ediv, -Int.natCast_emod, -Int.natCast_mul, -Int.natCast_add, h0, h1, h6, h7, hA', wl0, wl1, wl2, wlm1, wlm2]
      refine callp (bit_ev b out.length _ _) ?_ (hf := g24)
      simp -implicitDefEqProofs [-Int.natCast_ediv, -Int.natCast_emod, -Int.natCast_mul, -Int.natCast_add, h0, h1, h6, h7, hB', wl0, wl1, wl2, wlm1, wlm2]
      refine append_grow (es := out.map eB) (xs := [eB (1 == 1)]) h5 (by simp; exact ⟨rfl, rfl⟩) (by simp -implicitDefEqProofs [-Int.natCast_ediv, -Int.natCast_emod, -Int.natCast_mul, -Int.natCast_add, eB, srcOf]) rfl (by simp) (by simp [eB]) (by simp; omega) (by simp) ?_
      intro G' hg hf ha
      simp -implicitDefEqProofs [-Int.natCast_ediv, -Int.natCast_emod, -Int.natCast_mul, -Int.natCast_add, h0, h1, h6, h7, wl, wl0, wl1, wl2, wlm1, wlm2]
      exact sub_next (q := 1) (s := 1) (by omega) (by omega) he h4 hk hg (ha _ _ (by omega) hA) ((hf _ _ (by omega)).trans g37) ((hf _ _ (by omega)).trans g19) ((hf _ _ (by omega)).trans g24)
    · have he : 0 + (bitAt b out.length).toNat + 1 = (bitAt a out.length).toNat + 2 * 1 := by rw [hA', hB']; rfl
      simp -implicitDefEqProofs [-Int.natCast_ediv, -Int.natCast_emod, -Int.natCast_mul, -Int.natCast_add, h0, h1, h6, h7, e1, wl0, wl1, wl2, wlm1, wlm2]
      refine callp (bit_ev a out.length _ _) ?_ (hf := g19)
      simp -implicitDefEqProofs [-Int.natCast_ediv, -Int.natCast_emod, -Int.natCast_mul, -Int.natCast_add, h0, h1, h6, h7, hA', wl0, wl1, wl2, wlm1, wlm2]
      refine callp (bit_ev b out.length _ _) ?_ (hf := g24)
      simp -implicitDefEqProofs [-Int.natCast_ediv, -Int.natCast_emod, -Int.natCast_mul, -Int.natCast_add, h0, h1, h6, h7, hB', wl0, wl1, wl2, wlm1, wlm2]
      refine append_grow (es := out.map eB) (xs := [eB (0 == 1)]) h5 (by simp; exact ⟨rfl, rfl⟩) (by simp -implicitDefEqProofs [-Int.natCast_ediv, -Int.natCast_emod, -Int.natCast_mul, -Int.natCast_add, eB, srcOf]) rfl (by simp) (by simp [eB]) (by simp; omega) (by simp) ?_
      intro G' hg hf ha
      simp -implicitDefEqProofs [-Int.natCast_ediv, -Int.natCast_emod, -Int.natCast_mul, -Int.natCast_add, h0, h1, h6, h7, wl, wl0, wl1, wl2, wlm1, wlm2]
      exact sub_next (q := 0) (s := 1) (by omega) (by omega) he h4 hk hg (ha _ _ (by omega) hA) ((hf _ _ (by omega)).trans g37) ((hf _ _ (by omega)).trans g19) ((hf _ _ (by omega)).trans g24)
    · have he : 0 + (bitAt b out.length).toNat + 1 = (bitAt a out.length).toNat + 2 * 0 := by rw [hA', hB']; rfl
      simp -implicitDefEqProofs [-Int.natCast_ediv, -Int.natCast_emod, -Int.natCast_mul, -Int.natCast_add, h0, h1, h6, h7, e1, wl0, wl1, wl2, wlm1, wlm2]
      refine callp (bit_ev a out.length _ _) ?_ (hf := g19)
      simp -implicitDefEqProofs [-Int.natCast_ediv, -Int.natCast_emod, -Int.natCast_mul, -Int.natCast_add, h0, h1, h6, h7, hA', wl0, wl1, wl2, wlm1, wlm2]
      refine callp (bit_ev b out.length _ _) ?_ (hf := g24)
      simp -implicitDefEqProofs [-Int.natCast_ediv, -Int.natCast_emod, -Int.natCast_mul, -Int.natCast_add, h0, h1, h6, h7, hB', wl0, wl1, wl2, wlm1, wlm2]
      refine append_grow (es := out.map eB) (xs := [eB (0 == 1)]) h5 (by simp; exact ⟨rfl, rfl⟩) (by simp -implicitDefEqProofs [-Int.natCast_ediv, -Int.natCast_emod, -Int.natCast_mul, -Int.natCast_add, eB, srcOf]) rfl (by simp) (by simp [eB]) (by simp; omega) (by simp) ?_
      intro G' hg hf ha
      simp -implicitDefEqProofs [-Int.natCast_ediv, -Int.natCast_emod, -Int.natCast_mul, -Int.natCast_add, h0, h1, h6, h7, wl, wl0, wl1, wl2, wlm1, wlm2]
      exact sub_next (q := 0) (s := 0) (by omega) (by omega) he h4 hk hg (ha _ _ (by omega) hA) ((hf _ _ (by omega)).trans g37) ((hf _ _ (by omega)).trans g19) ((hf _ _ (by omega)).trans g24)
    · have he : 1 + (bitAt b out.length).toNat + 1 = (bitAt a out.length).toNat + 2 * 1 := by rw [hA', hB']; rfl
      simp -implicitDefEqProofs [-Int.natCast_ediv, -Int.natCast_emod, -Int.natCast_mul, -Int.natCast_add, h0, h1, h6, h7, e1, wl0, wl1, wl2, wlm1, wlm2]
      refine callp (bit_ev a out.length _ _) ?_ (hf := g19)
      simp -implicitDefEqProofs [-Int.natCast_ediv, -Int.natCast_emod, -Int.natCast_mul, -Int.natCast_add, h0, h1, h6, h7, hA', wl0, wl1, wl2, wlm1, wlm2]
      refine callp (bit_ev b out.length _ _) ?_ (hf := g24)
      simp -implicitDefEqProofs [-Int.natCast_ediv, -Int.natCast_emod, -Int.natCast_mul, -Int.natCast_add, h0, h1, h6, h7, hB', wl0, wl1, wl2, wlm1, wlm2]
      refine append_grow (es := out.map eB) (xs := [eB (1 == 1)]) h5 (by simp; exact ⟨rfl, rfl⟩) (by simp -implicitDefEqProofs [-Int.natCast_ediv, -Int.natCast_emod, -Int.natCast_mul, -Int.natCast_add, eB, srcOf]) rfl (by simp) (by simp [eB]) (by simp; omega) (by simp) ?_
      intro G' hg hf ha
      simp -implicitDefEqProofs [-Int.natCast_ediv, -Int.natCast_emod, -Int.natCast_mul, -Int.natCast_add, h0, h1, h6, h7, wl, wl0, wl1, wl2, wlm1, wlm2]
      exact sub_next (q := 1) (s := 1) (by omega) (by omega) he h4 hk hg (ha _ _ (by omega) hA) ((hf _ _ (by omega)).trans g37) ((hf _ _ (by omega)).trans g19) ((hf _ _ (by omega)).trans g24)
end Go.E.Ref
