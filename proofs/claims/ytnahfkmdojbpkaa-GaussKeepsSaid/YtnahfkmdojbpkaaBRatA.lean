import Derived.Test.YtnahfkmdojbpkaaMF
import Derived.Test.YtnahfkmdojbpkaaBRatP
/-! Fractions of 64 bits, as the program reckons them. -/
set_option linter.all false
set_option maxRecDepth 100000
namespace Go.E
open Go Go.Proofs Go.Eng
open BallQ (In64 Right q out fits put)
variable {TB : Nat → Option Obj}
def uN (n : Nat) : GV := .p (.int .u64 (n : Int))
def iN (n : Int) : GV := .p (.int .i64 n)
def bN (b : Bool) : GV := .p (.bool b)
theorem size_ev (a : Int) (ha : In64 a) (d : Nat) (G : Heap) : Tel Try.prog TB d 50 [.p (.int .i64 a)] G (.p (.int .u64 ((a.natAbs : Nat) : Int))) G := by
  obtain ⟨h0, h1⟩ := ha
  refine Tel.intro mix Try.func50 rfl (Nat.le_of_ble_eq_true rfl) {} (by kernel_rfl) (by kernel_rfl) ?_
  by_cases h : a < 0
  · simp -implicitDefEqProofs [Try.results50, h]
    rw [wu64, wu64]; omega
  · simp -implicitDefEqProofs [Try.results50, h]
    rw [wu64]; omega
theorem common_ev (a b : Nat) (d : Nat) (G : Heap) : Tel Try.prog TB d 49 [.p (.int .u64 (a:Int)), .p (.int .u64 (b:Int))] G (.p (.int .u64 ((a.gcd b : Nat) : Int))) G := by
  refine Tel.intro mix Try.func49 rfl (Nat.le_of_ble_eq_true rfl) {} (by kernel_rfl) (by kernel_rfl) ?_
  simp -implicitDefEqProofs [Try.results49]
  refine gwp_loop (fun k s => ∃ x y : Nat, s.F 0 = .p (.int .u64 (x : Int)) ∧ s.F 1 = .p (.int .u64 (y : Int)) ∧ y = k ∧ x.gcd y = a.gcd b ∧ s.G = cut d G) ⟨a, b, by simp, by simp, rfl, rfl, rfl⟩ ?_
  rintro k s ⟨x, y, h0, h1, rfl, hg, hG⟩
  by_cases h : y = 0
  · subst h
    simp -implicitDefEqProofs [h0, h1, hG]
    simp at hg
    omega
  · have hy : ((y : Nat) : Int) ≠ 0 := by omega
    have e : Int.tmod (x : Int) (y : Int) = ((x % y : Nat) : Int) := by rw [Int.tmod_eq_emod_of_nonneg (by omega)]; omega
    simp -implicitDefEqProofs [h0, h1, hG, h, e]
    exact ⟨x % y, Nat.mod_lt _ (by omega), y, rfl, x % y, rfl, rfl, by rw [← hg, Nat.gcd_comm y, ← Nat.gcd_rec, Nat.gcd_comm]⟩
theorem mul64_ev (a b : Nat) (ha : a < 18446744073709551616) (hb : b < 18446744073709551616) (d : Nat) (G : Heap) : Tel Try.prog TB d 88 [.p (.int .u64 (a:Int)), .p (.int .u64 (b:Int))] G
    (.tup [.p (.int .u64 ((a * b / 18446744073709551616 : Nat) : Int)), .p (.int .u64 ((a * b % 18446744073709551616 : Nat) : Int))]) G := by
  have hs := mul_split (a / 4294967296) (a % 4294967296) (b / 4294967296) (b % 4294967296) 4294967296 (by omega)
  rw [Nat.div_add_mod', Nat.div_add_mod'] at hs
  have sh : ∀ x : Nat, shrI .u64 (x : Int) 32 = ((x / 4294967296 : Nat) : Int) := fun x => shr_eq x 32 (by omega)
  have elo : IntKind.u64.wrap ((a : Int) * (b : Int)) = ((a * b % 18446744073709551616 : Nat) : Int) := by rw [wu64]; omega
  have a1 : a / 4294967296 < 4294967296 := by omega
  have a0 : a % 4294967296 < 4294967296 := by omega
  have b1 : b / 4294967296 < 4294967296 := by omega
  have b0 : b % 4294967296 < 4294967296 := by omega
  rw [hs]
  refine Tel.intro mix Try.func88 rfl (Nat.le_of_ble_eq_true rfl) {} (by kernel_rfl) (by kernel_rfl) ?_
  simp -implicitDefEqProofs [Try.results88, sh, -Int.natCast_ediv, -Int.natCast_emod, -Int.natCast_mul, -Int.natCast_add, and32 a ha, and32 b hb, elo]
  clear hs elo ha hb
  have sh : ∀ x : Nat, shrI .u64 (x : Int) 32 = ((x / 4294967296 : Nat) : Int) := fun x => shr_eq x 32 (by omega)
  generalize a / 4294967296 = x1 at *
  generalize a % 4294967296 = x0 at *
  generalize b / 4294967296 = y1 at *
  generalize b % 4294967296 = y0 at *
  have m1 := mul_lt a1 b1
  have m2 := mul_lt a1 b0
  have m3 := mul_lt a0 b0
  have m4 := mul_lt a0 b1
  have w1 : IntKind.u64.wrap ((x0 : Int) * (y0 : Int)) = ((x0 * y0 : Nat) : Int) := by rw [wu64, ← Int.natCast_mul]; omega
  have w2 : IntKind.u64.wrap ((x1 : Int) * (y0 : Int)) = ((x1 * y0 : Nat) : Int) := by rw [wu64, ← Int.natCast_mul]; omega
  have w3 : IntKind.u64.wrap ((x0 : Int) * (y1 : Int)) = ((x0 * y1 : Nat) : Int) := by rw [wu64, ← Int.natCast_mul]; omega
  have w4 : IntKind.u64.wrap ((x1 : Int) * (y1 : Int)) = ((x1 * y1 : Nat) : Int) := by rw [wu64, ← Int.natCast_mul]; omega
  rw [w1, w2, w3, w4, sh]
  generalize x0 * y0 = p00 at *
  generalize x1 * y0 = p10 at *
  generalize x0 * y1 = p01 at *
  generalize x1 * y1 = p11 at *
  have e1 : IntKind.u64.wrap ((p10 : Int) + ((p00 / 4294967296 : Nat) : Int)) = ((p10 + p00 / 4294967296 : Nat) : Int) := by rw [wu64]; omega
  have et : p10 + p00 / 4294967296 < 18446744073709551616 := by omega
  rw [e1, and32 _ et, sh]
  have e2 : IntKind.u64.wrap (((p10 + p00 / 4294967296) % 4294967296 : Nat) + (p01 : Int)) = (((p10 + p00 / 4294967296) % 4294967296 + p01 : Nat) : Int) := by rw [wu64]; omega
  rw [e2, sh]
  have e3 : IntKind.u64.wrap ((p11 : Int) + (((p10 + p00 / 4294967296) / 4294967296 : Nat) : Int)) = ((p11 + (p10 + p00 / 4294967296) / 4294967296 : Nat) : Int) := by rw [wu64]; omega
  rw [e3, wu64]
  omega
def tabOK (s : ByteArray) : Bool := (List.range 256).all fun i => match s[i]? with
  | some v => i == 0 || v.toNat == Nat.log2 i + 1
  | none => false
theorem tab_idx {P : Program} {t : TypeId} {s : ByteArray} {k : IntKind} {i : Nat} {K : GV → Prop} (hs : isStr P t = true) (ht : tabOK s = true) (hi : i < 256) (h0 : i ≠ 0) (h : K (.p (.int .u8 ((Nat.log2 i + 1 : Nat) : Int)))) :
    gIndex P t (.p (.str s)) (.p (.int k (i : Int))) K := by
  unfold tabOK at ht
  rw [List.all_eq_true] at ht
  have h1 := ht i (List.mem_range.2 hi)
  unfold gIndex
  dsimp only
  refine ⟨hs, by omega, ?_⟩
  rw [Int.toNat_natCast]
  split at h1
  · rename_i u hu
    rw [hu]
    dsimp only
    have : u.toNat = Nat.log2 i + 1 := by
      rcases Bool.or_eq_true _ _ ▸ h1 with h2 | h2
      · exact absurd (beq_iff_eq.1 h2) h0
      · exact beq_iff_eq.1 h2
    rw [this]
    exact h
  · cases h1
theorem tab_val {i : Nat} (hi : i < 256) (h0 : i ≠ 0) : Nat.log2 i + 1 ≤ 8 ∧ i < 2 ^ (Nat.log2 i + 1) ∧ 2 ^ (Nat.log2 i + 1) ≤ 2 * i := by
  refine ⟨?_, Nat.lt_log2_self, ?_⟩
  · have := (Nat.log2_lt h0).2 (show i < 2 ^ 8 by omega)
    omega
  · have := Nat.log2_self_le h0
    rw [Nat.pow_succ]; omega
theorem pow_parts {x k v : Nat} (h1 : x / 2 ^ k < 2 ^ v) (h2 : 2 ^ v ≤ 2 * (x / 2 ^ k)) : x < 2 ^ (k + v) ∧ 2 ^ (k + v) ≤ 2 * x := by
  have hp : 0 < 2 ^ k := Nat.pow_pos (by decide)
  rw [Nat.pow_add]
  constructor
  · rw [Nat.div_lt_iff_lt_mul hp] at h1
    rw [Nat.mul_comm]; exact h1
  · have h3 := Nat.mul_le_mul_left (2 ^ k) h2
    have h4 := Nat.div_mul_le_self x (2 ^ k)
    have h5 : 2 ^ k * (2 * (x / 2 ^ k)) = 2 * (x / 2 ^ k * 2 ^ k) := by
      rw [Nat.mul_comm (2 ^ k), Nat.mul_assoc]
    omega
theorem wu8 {x : Nat} (h : x < 256) : IntKind.u8.wrap (x : Int) = (x : Int) := by
  simp [IntKind.wrap, IntKind.signed, IntKind.bits]; omega
theorem len64_ev (x : Nat) (h0 : 0 < x) (hx : x < 18446744073709551616) (d : Nat) (G : Heap) : ∃ n : Nat, Tel Try.prog TB d 92 [.p (.int .u64 (x:Int))] G (.p (.int .i64 (n : Int))) G ∧ n ≤ 64 ∧ x < 2 ^ n ∧ 2 ^ n ≤ 2 * x := by
  have s32 : ∀ x : Nat, shrI .u64 (x : Int) 32 = ((x / 4294967296 : Nat) : Int) := fun x => shr_eq x 32 (by omega)
  have s16 : ∀ x : Nat, shrI .u64 (x : Int) 16 = ((x / 65536 : Nat) : Int) := fun x => shr_eq x 16 (by omega)
  have s8 : ∀ x : Nat, shrI .u64 (x : Int) 8 = ((x / 256 : Nat) : Int) := fun x => shr_eq x 8 (by omega)
  by_cases h1 : 4294967296 ≤ x
  · have q1 : (4294967296 ≤ ((x : Nat) : Int)) = True := by simp only [eq_iff_iff, iff_true]; omega
    by_cases h2 : 65536 ≤ x / 4294967296
    · have q2 : (65536 ≤ ((x / 4294967296 : Nat) : Int)) = True := by simp only [eq_iff_iff, iff_true]; omega
      by_cases h3 : 256 ≤ x / 4294967296 / 65536
      · have q3 : (256 ≤ ((x / 4294967296 / 65536 : Nat) : Int)) = True := by simp only [eq_iff_iff, iff_true]; omega
        have hlt : x / 4294967296 / 65536 / 256 < 256 := by omega
        have h0' : x / 4294967296 / 65536 / 256 ≠ 0 := by omega
        obtain ⟨v8, vl, vg⟩ := tab_val hlt h0'
        have ed : x / 4294967296 / 65536 / 256 = x / 2 ^ 56 := by omega
        have pp := pow_parts (x := x) (k := 56) (v := Nat.log2 (x / 4294967296 / 65536 / 256) + 1) (by rw [← ed]; exact vl) (by rw [← ed]; exact vg)
        refine ⟨56 + (Nat.log2 (x / 4294967296 / 65536 / 256) + 1), ?_, by omega, pp.1, pp.2⟩
        clear pp ed vl vg
        have ew : IntKind.u8.wrap ((x / 4294967296 / 65536 / 256 : Nat) : Int) = ((x / 4294967296 / 65536 / 256 : Nat) : Int) := wu8 hlt
        refine Tel.intro mix Try.func92 rfl (Nat.le_of_ble_eq_true rfl) {} (by kernel_rfl) (by kernel_rfl) ?_
        simp -implicitDefEqProofs [Try.results92, -gIndex, -Int.natCast_ediv, s32, s16, s8, q1, q2, q3, ew]
        refine tab_idx (by simp) (by kernel_rfl) hlt h0' ?_
        simp -implicitDefEqProofs [Try.results92]
        generalize Nat.log2 (x / 4294967296 / 65536 / 256) = v at *
        simp only [wi64]
        omega
      · have q3 : (256 ≤ ((x / 4294967296 / 65536 : Nat) : Int)) = False := by simp only [eq_iff_iff, iff_false]; omega
        have hlt : x / 4294967296 / 65536 < 256 := by omega
        have h0' : x / 4294967296 / 65536 ≠ 0 := by omega
        obtain ⟨v8, vl, vg⟩ := tab_val hlt h0'
        have ed : x / 4294967296 / 65536 = x / 2 ^ 48 := by omega
        have pp := pow_parts (x := x) (k := 48) (v := Nat.log2 (x / 4294967296 / 65536) + 1) (by rw [← ed]; exact vl) (by rw [← ed]; exact vg)
        refine ⟨48 + (Nat.log2 (x / 4294967296 / 65536) + 1), ?_, by omega, pp.1, pp.2⟩
        clear pp ed vl vg
        have ew : IntKind.u8.wrap ((x / 4294967296 / 65536 : Nat) : Int) = ((x / 4294967296 / 65536 : Nat) : Int) := wu8 hlt
        refine Tel.intro mix Try.func92 rfl (Nat.le_of_ble_eq_true rfl) {} (by kernel_rfl) (by kernel_rfl) ?_
        simp -implicitDefEqProofs [Try.results92, -gIndex, -Int.natCast_ediv, s32, s16, s8, q1, q2, q3, ew]
        refine tab_idx (by simp) (by kernel_rfl) hlt h0' ?_
        simp -implicitDefEqProofs [Try.results92]
        generalize Nat.log2 (x / 4294967296 / 65536) = v at *
        simp only [wi64]
        omega
    · have q2 : (65536 ≤ ((x / 4294967296 : Nat) : Int)) = False := by simp only [eq_iff_iff, iff_false]; omega
      by_cases h3 : 256 ≤ x / 4294967296
      · have q3 : (256 ≤ ((x / 4294967296 : Nat) : Int)) = True := by simp only [eq_iff_iff, iff_true]; omega
        have hlt : x / 4294967296 / 256 < 256 := by omega
        have h0' : x / 4294967296 / 256 ≠ 0 := by omega
        obtain ⟨v8, vl, vg⟩ := tab_val hlt h0'
        have ed : x / 4294967296 / 256 = x / 2 ^ 40 := by omega
        have pp := pow_parts (x := x) (k := 40) (v := Nat.log2 (x / 4294967296 / 256) + 1) (by rw [← ed]; exact vl) (by rw [← ed]; exact vg)
        refine ⟨40 + (Nat.log2 (x / 4294967296 / 256) + 1), ?_, by omega, pp.1, pp.2⟩
        clear pp ed vl vg
        have ew : IntKind.u8.wrap ((x / 4294967296 / 256 : Nat) : Int) = ((x / 4294967296 / 256 : Nat) : Int) := wu8 hlt
        refine Tel.intro mix Try.func92 rfl (Nat.le_of_ble_eq_true rfl) {} (by kernel_rfl) (by kernel_rfl) ?_
        simp -implicitDefEqProofs [Try.results92, -gIndex, -Int.natCast_ediv, s32, s16, s8, q1, q2, q3, ew]
        refine tab_idx (by simp) (by kernel_rfl) hlt h0' ?_
        simp -implicitDefEqProofs [Try.results92]
        generalize Nat.log2 (x / 4294967296 / 256) = v at *
        simp only [wi64]
        omega
      · have q3 : (256 ≤ ((x / 4294967296 : Nat) : Int)) = False := by simp only [eq_iff_iff, iff_false]; omega
        have hlt : x / 4294967296 < 256 := by omega
        have h0' : x / 4294967296 ≠ 0 := by omega
        obtain ⟨v8, vl, vg⟩ := tab_val hlt h0'
        have ed : x / 4294967296 = x / 2 ^ 32 := by omega
        have pp := pow_parts (x := x) (k := 32) (v := Nat.log2 (x / 4294967296) + 1) (by rw [← ed]; exact vl) (by rw [← ed]; exact vg)
        refine ⟨32 + (Nat.log2 (x / 4294967296) + 1), ?_, by omega, pp.1, pp.2⟩
        clear pp ed vl vg
        have ew : IntKind.u8.wrap ((x / 4294967296 : Nat) : Int) = ((x / 4294967296 : Nat) : Int) := wu8 hlt
        refine Tel.intro mix Try.func92 rfl (Nat.le_of_ble_eq_true rfl) {} (by kernel_rfl) (by kernel_rfl) ?_
        simp -implicitDefEqProofs [Try.results92, -gIndex, -Int.natCast_ediv, s32, s16, s8, q1, q2, q3, ew]
        refine tab_idx (by simp) (by kernel_rfl) hlt h0' ?_
        simp -implicitDefEqProofs [Try.results92]
        generalize Nat.log2 (x / 4294967296) = v at *
        simp only [wi64]
        omega
  · have q1 : (4294967296 ≤ ((x : Nat) : Int)) = False := by simp only [eq_iff_iff, iff_false]; omega
    by_cases h2 : 65536 ≤ x
    · have q2 : (65536 ≤ ((x : Nat) : Int)) = True := by simp only [eq_iff_iff, iff_true]; omega
      by_cases h3 : 256 ≤ x / 65536
      · have q3 : (256 ≤ ((x / 65536 : Nat) : Int)) = True := by simp only [eq_iff_iff, iff_true]; omega
        have hlt : x / 65536 / 256 < 256 := by omega
        have h0' : x / 65536 / 256 ≠ 0 := by omega
        obtain ⟨v8, vl, vg⟩ := tab_val hlt h0'
        have ed : x / 65536 / 256 = x / 2 ^ 24 := by omega
        have pp := pow_parts (x := x) (k := 24) (v := Nat.log2 (x / 65536 / 256) + 1) (by rw [← ed]; exact vl) (by rw [← ed]; exact vg)
        refine ⟨24 + (Nat.log2 (x / 65536 / 256) + 1), ?_, by omega, pp.1, pp.2⟩
        clear pp ed vl vg
        have ew : IntKind.u8.wrap ((x / 65536 / 256 : Nat) : Int) = ((x / 65536 / 256 : Nat) : Int) := wu8 hlt
        refine Tel.intro mix Try.func92 rfl (Nat.le_of_ble_eq_true rfl) {} (by kernel_rfl) (by kernel_rfl) ?_
        simp -implicitDefEqProofs [Try.results92, -gIndex, -Int.natCast_ediv, s32, s16, s8, q1, q2, q3, ew]
        refine tab_idx (by simp) (by kernel_rfl) hlt h0' ?_
        simp -implicitDefEqProofs [Try.results92]
        generalize Nat.log2 (x / 65536 / 256) = v at *
        simp only [wi64]
        omega
      · have q3 : (256 ≤ ((x / 65536 : Nat) : Int)) = False := by simp only [eq_iff_iff, iff_false]; omega
        have hlt : x / 65536 < 256 := by omega
        have h0' : x / 65536 ≠ 0 := by omega
        obtain ⟨v8, vl, vg⟩ := tab_val hlt h0'
        have ed : x / 65536 = x / 2 ^ 16 := by omega
        have pp := pow_parts (x := x) (k := 16) (v := Nat.log2 (x / 65536) + 1) (by rw [← ed]; exact vl) (by rw [← ed]; exact vg)
        refine ⟨16 + (Nat.log2 (x / 65536) + 1), ?_, by omega, pp.1, pp.2⟩
        clear pp ed vl vg
        have ew : IntKind.u8.wrap ((x / 65536 : Nat) : Int) = ((x / 65536 : Nat) : Int) := wu8 hlt
        refine Tel.intro mix Try.func92 rfl (Nat.le_of_ble_eq_true rfl) {} (by kernel_rfl) (by kernel_rfl) ?_
        simp -implicitDefEqProofs [Try.results92, -gIndex, -Int.natCast_ediv, s32, s16, s8, q1, q2, q3, ew]
        refine tab_idx (by simp) (by kernel_rfl) hlt h0' ?_
        simp -implicitDefEqProofs [Try.results92]
        generalize Nat.log2 (x / 65536) = v at *
        simp only [wi64]
        omega
    · have q2 : (65536 ≤ ((x : Nat) : Int)) = False := by simp only [eq_iff_iff, iff_false]; omega
      by_cases h3 : 256 ≤ x
      · have q3 : (256 ≤ ((x : Nat) : Int)) = True := by simp only [eq_iff_iff, iff_true]; omega
        have hlt : x / 256 < 256 := by omega
        have h0' : x / 256 ≠ 0 := by omega
        obtain ⟨v8, vl, vg⟩ := tab_val hlt h0'
        have ed : x / 256 = x / 2 ^ 8 := by omega
        have pp := pow_parts (x := x) (k := 8) (v := Nat.log2 (x / 256) + 1) (by rw [← ed]; exact vl) (by rw [← ed]; exact vg)
        refine ⟨8 + (Nat.log2 (x / 256) + 1), ?_, by omega, pp.1, pp.2⟩
        clear pp ed vl vg
        have ew : IntKind.u8.wrap ((x / 256 : Nat) : Int) = ((x / 256 : Nat) : Int) := wu8 hlt
        refine Tel.intro mix Try.func92 rfl (Nat.le_of_ble_eq_true rfl) {} (by kernel_rfl) (by kernel_rfl) ?_
        simp -implicitDefEqProofs [Try.results92, -gIndex, -Int.natCast_ediv, s32, s16, s8, q1, q2, q3, ew]
        refine tab_idx (by simp) (by kernel_rfl) hlt h0' ?_
        simp -implicitDefEqProofs [Try.results92]
        generalize Nat.log2 (x / 256) = v at *
        simp only [wi64]
        omega
      · have q3 : (256 ≤ ((x : Nat) : Int)) = False := by simp only [eq_iff_iff, iff_false]; omega
        have hlt : x < 256 := by omega
        have h0' : x ≠ 0 := by omega
        obtain ⟨v8, vl, vg⟩ := tab_val hlt h0'
        have ed : x = x / 2 ^ 0 := by omega
        have pp := pow_parts (x := x) (k := 0) (v := Nat.log2 (x) + 1) (by rw [← ed]; exact vl) (by rw [← ed]; exact vg)
        refine ⟨0 + (Nat.log2 (x) + 1), ?_, by omega, pp.1, pp.2⟩
        clear pp ed vl vg
        have ew : IntKind.u8.wrap ((x : Nat) : Int) = ((x : Nat) : Int) := wu8 hlt
        refine Tel.intro mix Try.func92 rfl (Nat.le_of_ble_eq_true rfl) {} (by kernel_rfl) (by kernel_rfl) ?_
        simp -implicitDefEqProofs [Try.results92, -gIndex, -Int.natCast_ediv, s32, s16, s8, q1, q2, q3, ew]
        refine tab_idx (by simp) (by kernel_rfl) hlt h0' ?_
        simp -implicitDefEqProofs [Try.results92]
        generalize Nat.log2 (x) = v at *
        simp only [wi64]
        omega
theorem zeros_ev (x : Nat) (h0 : 0 < x) (hx : x < 18446744073709551616) (d : Nat) (G : Heap) : ∃ s : Nat, Tel Try.prog TB d 91 [.p (.int .u64 (x:Int))] G (.p (.int .i64 (s : Int))) G ∧
    s ≤ 63 ∧ x * 2 ^ s < 18446744073709551616 ∧ 9223372036854775808 ≤ x * 2 ^ s := by
  obtain ⟨n, hn, n0, n1, n2⟩ := len64_ev (TB := TB) x h0 hx (d + 1) empty
  have hn0 : n ≠ 0 := by intro e; subst e; simp at n1; omega
  refine ⟨64 - n, ?_, by omega, ?_, ?_⟩
  · refine Tel.intro mix Try.func91 rfl (Nat.le_of_ble_eq_true rfl) {} (by kernel_rfl) (by kernel_rfl) ?_
    simp -implicitDefEqProofs [Try.results91]
    refine callp hn ?_
    simp -implicitDefEqProofs [Try.results91, wi64]
    omega
  · have : 2 ^ n * 2 ^ (64 - n) = 18446744073709551616 := by rw [← Nat.pow_add, show n + (64 - n) = 64 by omega]
    have h := Nat.mul_lt_mul_of_pos_right n1 (Nat.pow_pos (n := 64 - n) (show 0 < 2 by omega))
    omega
  · have : 2 ^ n * 2 ^ (64 - n) = 18446744073709551616 := by rw [← Nat.pow_add, show n + (64 - n) = 64 by omega]
    have h := Nat.mul_le_mul_right (2 ^ (64 - n)) n2
    rw [Nat.mul_assoc] at h
    omega
theorem add64_ev (x y b : Nat) (hb : b ≤ 1) (d : Nat) (G : Heap) : Tel Try.prog TB d 89 [.p (.int .u64 (x : Int)), .p (.int .u64 (y : Int)), .p (.int .u64 (b : Int))] G
    (.tup [.p (.int .u64 (((x + y + b) % 18446744073709551616 : Nat) : Int)), .p (.int .u64 (((x + y + b) / 18446744073709551616 : Nat) : Int))]) G :=
  tel_carry (en := addEntry) Try.func89 (by kernel_rfl) (by kernel_rfl) (by kernel_rfl) (by kernel_rfl) (run_add x y b hb) d G
theorem sub64_ev (x y b : Nat) (hb : b ≤ 1) (d : Nat) (G : Heap) : Tel Try.prog TB d 90 [.p (.int .u64 (x : Int)), .p (.int .u64 (y : Int)), .p (.int .u64 (b : Int))] G
    (.tup [.p (.int .u64 (((x + 18446744073709551616 - y - b) % 18446744073709551616 : Nat) : Int)), .p (.int .u64 ((if x < y + b then 1 else 0 : Nat) : Int))]) G :=
  tel_carry (en := subEntry) Try.func90 (by kernel_rfl) (by kernel_rfl) (by kernel_rfl) (by kernel_rfl) (run_sub x y b hb) d G
theorem put_ev (n k : Nat) (m : Bool) (hn : n < 18446744073709551616) (hk : k < 18446744073709551616) (d : Nat) (G : Heap) : Tel Try.prog TB d 81 [.p (.int .u64 (n : Int)), .p (.int .u64 (k : Int)), .p (.bool m)] G
    (.tup [.agg [.p (.int .i64 (put n k m).1), .p (.int .i64 (put n k m).2.1)], .p (.int .i64 (put n k m).2.2)]) G := by
  unfold BallQ.put
  refine Tel.intro mix Try.func81 rfl (Nat.le_of_ble_eq_true rfl) {} (by kernel_rfl) (by kernel_rfl) ?_
  by_cases h1 : 9223372036854775808 ≤ n
  · have e1 : ((9223372036854775807 : Int) < (n : Int)) = True := by simp only [eq_iff_iff, iff_true]; omega
    simp -implicitDefEqProofs [Try.results81, e1, show ¬ (n < 9223372036854775808) by omega]
  · have e1 : ((9223372036854775807 : Int) < (n : Int)) = False := by simp only [eq_iff_iff, iff_false]; omega
    by_cases h2 : 9223372036854775808 ≤ k
    · have e2 : ((9223372036854775807 : Int) < (k : Int)) = True := by simp only [eq_iff_iff, iff_true]; omega
      simp -implicitDefEqProofs [Try.results81, e1, e2, show ¬ (k < 9223372036854775808) by omega]
    · have e2 : ((9223372036854775807 : Int) < (k : Int)) = False := by simp only [eq_iff_iff, iff_false]; omega
      have w1 : IntKind.i64.wrap (n : Int) = n := by rw [wi64]; omega
      have w2 : IntKind.i64.wrap (k : Int) = k := by rw [wi64]; omega
      have w3 : IntKind.i64.wrap (-(n : Int)) = -(n : Int) := by rw [wi64]; omega
      have g1 : n < 9223372036854775808 := by omega
      have g2 : k < 9223372036854775808 := by omega
      cases m
      · simp -implicitDefEqProofs [Try.results81, e1, e2, w1, w2, w3, g1, g2]
      · simp -implicitDefEqProofs [Try.results81, e1, e2, w1, w2, w3, g1, g2]
theorem product_ev (a b : Nat) (ha : a < 18446744073709551616) (hb : b < 18446744073709551616) (d : Nat) (G : Heap) : Tel Try.prog TB d 80 [.p (.int .u64 (a : Int)), .p (.int .u64 (b : Int))] G
    (.tup [.p (.int .u64 ((a * b % 18446744073709551616 : Nat) : Int)), .p (.bool (decide (a * b < 18446744073709551616)))]) G := by
  have e : decide ((((a * b / 18446744073709551616 : Nat)) : Int) = 0) = decide (a * b < 18446744073709551616) := by rw [decide_eq_decide]; omega
  refine Tel.intro mix Try.func80 rfl (Nat.le_of_ble_eq_true rfl) {} (by kernel_rfl) (by kernel_rfl) ?_
  simp -implicitDefEqProofs [-Int.natCast_ediv, -Int.natCast_emod, -Int.natCast_mul, -Int.natCast_add, Try.results80]
  refine callp (mul64_ev a b ha hb _ _) ?_
  simp -implicitDefEqProofs [-Int.natCast_ediv, -Int.natCast_emod, -Int.natCast_mul, -Int.natCast_add, Try.results80, e]
theorem right_ev (n k : Int) (hn : In64 n) (hk : In64 k) (d : Nat) (G : Heap) : Tel Try.prog TB d 34 [.agg [.p (.int .i64 n), .p (.int .i64 k)]] G (.p (.bool (decide (Right n k)))) G := by
  refine Tel.intro mix Try.func34 rfl (Nat.le_of_ble_eq_true rfl) {} (by kernel_rfl) (by kernel_rfl) ?_
  by_cases h0 : 0 < k
  · by_cases h1 : n = -9223372036854775808
    · have : ¬ Right n k := fun h => h.2.1 h1
      subst h1
      simp -implicitDefEqProofs [Try.results34, h0, this]
    · have e : decide (((n.natAbs.gcd k.natAbs : Nat) : Int) = 1) = decide (Right n k) := by
        rw [decide_eq_decide]
        exact ⟨fun h => ⟨h0, h1, by omega⟩, fun h => by have := h.2.2; omega⟩
      simp -implicitDefEqProofs [Try.results34, h0, h1]
      refine callp (size_ev n hn _ _) ?_
      simp -implicitDefEqProofs [Try.results34]
      refine callp (size_ev k hk _ _) ?_
      simp -implicitDefEqProofs [Try.results34]
      refine callp (common_ev _ _ _ _) ?_
      simp -implicitDefEqProofs [Try.results34, e]
  · have : ¬ Right n k := fun h => h0 h.1
    simp -implicitDefEqProofs [Try.results34, h0, this]
end Go.E
