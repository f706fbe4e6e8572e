import Derived.Test.YtnahfkmdojbpkaaEPl
import Derived.Laws.BitsLemmas
/-! Fractions of 64 bits, plain. -/
set_option linter.all false
namespace BallQ
/-- A fraction that Go's 64 bits hold. -/
def fits (x : Rat) : Prop := x.num.natAbs < 9223372036854775808 ∧ x.den < 9223372036854775808
instance (x : Rat) : Decidable (fits x) := by unfold fits; infer_instance
/-- What is handed back for a fraction: its numbers, or that it runs over. -/
def out (x : Rat) : Int × Int × Int := if fits x then (x.num, (x.den : Int), 0) else (0, 0, 3)
/-- What is handed back for two sizes and a sign. -/
def put (n d : Nat) (m : Bool) : Int × Int × Int := if n < 9223372036854775808 ∧ d < 9223372036854775808 then ((if m then -(n : Int) else (n : Int)), (d : Int), 0) else (0, 0, 3)
def In64 (a : Int) : Prop := -9223372036854775808 ≤ a ∧ a ≤ 9223372036854775807
def Right (n d : Int) : Prop := 0 < d ∧ n ≠ -9223372036854775808 ∧ Nat.gcd n.natAbs d.natAbs = 1
instance (n d : Int) : Decidable (Right n d) := by unfold Right; infer_instance
/-- The fraction of two numbers. -/
def q (n d : Int) : Rat := mkRat n d.toNat
theorem q_right {n d : Int} (h : Right n d) (hn : In64 n) (hd : In64 d) : (q n d).num = n ∧ ((q n d).den : Int) = d ∧ fits (q n d) := by
  obtain ⟨h0, h1, h2⟩ := h
  have hdn : d.toNat ≠ 0 := by omega
  have hc : n.natAbs.Coprime d.toNat := by
    have : d.toNat = d.natAbs := by omega
    rw [this]; exact h2
  have e := Rat.mk_eq_mkRat n d.toNat hdn hc
  unfold q
  rw [← e]
  obtain ⟨n0, n1⟩ := hn
  obtain ⟨d0, d1⟩ := hd
  refine ⟨rfl, by show (d.toNat : Int) = d; omega, ?_⟩
  unfold fits
  show n.natAbs < _ ∧ d.toNat < _
  omega
theorem right_fits {x : Rat} (h : fits x) : Right x.num x.den ∧ In64 x.num ∧ In64 (x.den : Int) := by
  obtain ⟨h0, h1⟩ := h
  have hp := x.den_pos
  refine ⟨⟨by omega, by omega, ?_⟩, ⟨by omega, by omega⟩, ⟨by omega, by omega⟩⟩
  have := x.reduced
  exact this
theorem q_self (x : Rat) : q x.num x.den = x := by
  unfold q
  rw [Int.toNat_natCast, Rat.mkRat_self]
/-- Two right fractions of one value are the same. -/
theorem right_inj {a b c d : Int} (h : Right a b) (ha : In64 a) (hb : In64 b) (k : Right c d) (hc : In64 c) (hd : In64 d) (e : q a b = q c d) : a = c ∧ b = d := by
  obtain ⟨h0, h1, _⟩ := q_right h ha hb
  obtain ⟨k0, k1, _⟩ := q_right k hc hd
  rw [e] at h0 h1
  omega
theorem out_cop (N : Int) (D : Nat) (h : D ≠ 0) (c : N.natAbs.gcd D = 1) (m : Bool) (hm : N ≠ 0 → m = decide (N < 0)) : out (mkRat N D) = put N.natAbs D m := by
  rw [← Rat.mk_eq_mkRat N D h c]
  have e : (if m then -(N.natAbs : Int) else (N.natAbs : Int)) = N := by
    by_cases h0 : N = 0
    · subst h0; simp
    · rw [hm h0]
      by_cases hn : N < 0
      · simp only [hn, decide_true, if_true]; omega
      · simp only [hn, decide_false, Bool.false_eq_true, if_false]; omega
  unfold out put fits
  dsimp only
  rw [e]
theorem q_div (n : Int) (d : Nat) : mkRat n d = (n : Rat) / (d : Rat) := Rat.mkRat_eq_div n d
theorem cast_ne {d : Nat} (h : d ≠ 0) : (d : Rat) ≠ 0 := by exact_mod_cast h
theorem cop_of {a b g : Nat} (hg : 0 < g) (e : a.gcd b = g) : (a / g).gcd (b / g) = 1 := by
  subst e; exact Nat.coprime_div_gcd_div_gcd hg
theorem cop_dvd {a b c d : Nat} (h : a.gcd b = 1) (hc : c ∣ a) (hd : d ∣ b) : c.gcd d = 1 := Nat.Coprime.coprime_dvd_left hc (Nat.Coprime.coprime_dvd_right hd h)
/-- A product's parts: nothing is common to them. -/
theorem mul_cop {a b c d : Nat} (h1 : a.gcd b = 1) (h2 : c.gcd d = 1) (hb : 0 < b) (hd : 0 < d) :
    ((a / a.gcd d) * (c / c.gcd b)).gcd ((b / c.gcd b) * (d / a.gcd d)) = 1 := by
  have g1 : 0 < a.gcd d := Nat.gcd_pos_of_pos_right _ hd
  have g2 : 0 < c.gcd b := Nat.gcd_pos_of_pos_right _ hb
  have k1 := Nat.div_dvd_of_dvd (Nat.gcd_dvd_left a d)
  have k2 := Nat.div_dvd_of_dvd (Nat.gcd_dvd_right a d)
  have k3 := Nat.div_dvd_of_dvd (Nat.gcd_dvd_left c b)
  have k4 := Nat.div_dvd_of_dvd (Nat.gcd_dvd_right c b)
  apply Nat.Coprime.mul_left
  · apply Nat.Coprime.mul_right
    · exact cop_dvd h1 k1 k4
    · exact cop_of g1 rfl
  · apply Nat.Coprime.mul_right
    · exact cop_of g2 rfl
    · exact cop_dvd h2 k3 k2
theorem cast_div {a g : Nat} (h : g ∣ a) (hg : g ≠ 0) : ((a / g : Nat) : Rat) = (a : Rat) / (g : Rat) := by
  obtain ⟨t, rfl⟩ := h
  rw [Nat.mul_div_cancel_left _ (by omega)]
  have := cast_ne hg
  rw [Rat.natCast_mul]
  grind
theorem dvd_natAbs' {p : Nat} {x : Int} (h : (p : Int) ∣ x) : p ∣ x.natAbs := by
  have := Int.natAbs_dvd_natAbs.2 h
  simpa using this
theorem cop_lin {a b x : Int} {A B : Nat} (ha : a.natAbs.gcd A = 1) (hB : B.gcd A = 1) (hx : x = a * B + b * A) : x.natAbs.gcd A = 1 := by
  have hp : x.natAbs.gcd A ∣ A := Nat.gcd_dvd_right _ _
  have hq : x.natAbs.gcd A ∣ x.natAbs := Nat.gcd_dvd_left _ _
  have h1 : ((x.natAbs.gcd A : Nat) : Int) ∣ x := Int.dvd_natAbs.1 (Int.natCast_dvd_natCast.2 hq)
  have h2 : ((x.natAbs.gcd A : Nat) : Int) ∣ (A : Int) := Int.natCast_dvd_natCast.2 hp
  have h3 : ((x.natAbs.gcd A : Nat) : Int) ∣ a * B := by
    have e : a * B = x - b * A := by rw [hx]; omega
    rw [e]
    exact Int.dvd_sub h1 (Int.dvd_mul_of_dvd_right h2)
  have h4 : x.natAbs.gcd A ∣ a.natAbs * B := by
    have := dvd_natAbs' h3
    rwa [Int.natAbs_mul, Int.natAbs_natCast] at this
  have h5 : (a.natAbs * B).gcd A = 1 := Nat.Coprime.mul_left ha hB
  have := Nat.dvd_gcd h4 hp
  rw [h5] at this
  exact Nat.dvd_one.1 this
theorem fsum {a b A B G p t : Rat} (hA : A ≠ 0) (hB : B ≠ 0) (hG : G ≠ 0) (hp : p ≠ 0) (e : a * B + b * A = p * t) : a / (p * G * A) + b / (p * G * B) = t / (A * (G * B)) := by
  have h1 : p * G * A ≠ 0 := by simp [Rat.mul_eq_zero, *]
  have h2 : p * G * B ≠ 0 := by simp [Rat.mul_eq_zero, *]
  have h3 : A * (G * B) ≠ 0 := by simp [Rat.mul_eq_zero, *]
  have k : (a / (p * G * A) + b / (p * G * B)) * (p * (A * (G * B))) = a * B + b * A := by
    have e1 : a / (p * G * A) * (p * (A * (G * B))) = a * B := by
      have : p * (A * (G * B)) = p * G * A * B := by grind
      rw [this, ← Rat.mul_assoc, Rat.div_mul_cancel h1]
    have e2 : b / (p * G * B) * (p * (A * (G * B))) = b * A := by
      have : p * (A * (G * B)) = p * G * B * A := by grind
      rw [this, ← Rat.mul_assoc, Rat.div_mul_cancel h2]
    rw [Rat.add_mul, e1, e2]
  have k2 : t / (A * (G * B)) * (p * (A * (G * B))) = p * t := by
    have : p * (A * (G * B)) = (A * (G * B)) * p := by grind
    rw [this, ← Rat.mul_assoc, Rat.div_mul_cancel h3, Rat.mul_comm]
  have k3 : p * (A * (G * B)) ≠ 0 := by simp only [ne_eq, Rat.mul_eq_zero, not_or]; exact ⟨hp, hA, hG, hB⟩
  have k4 : (a / (p * G * A) + b / (p * G * B)) * (p * (A * (G * B))) = t / (A * (G * B)) * (p * (A * (G * B))) := by rw [k, k2, e]
  generalize a / (p * G * A) + b / (p * G * B) = u at *
  generalize t / (A * (G * B)) = v at *
  generalize p * (A * (G * B)) = w at *
  grind
/-- A sum, by Knuth's way: of what stands above only parts of the denominators' common part can go. -/
theorem add_parts {aN bN : Int} {aD bD : Nat} (ha : aN.natAbs.gcd aD = 1) (hb : bN.natAbs.gcd bD = 1) (h0 : 0 < aD) (h1 : 0 < bD) (n : Int)
    (hn : n = aN * ((bD / aD.gcd bD : Nat) : Int) + bN * ((aD / aD.gcd bD : Nat) : Int)) :
    ∃ t : Int, n = ((aD.gcd bD).gcd n.natAbs : Nat) * t ∧ mkRat aN aD + mkRat bN bD = mkRat t (aD / aD.gcd bD * (bD / (aD.gcd bD).gcd n.natAbs)) ∧ t.natAbs.gcd (aD / aD.gcd bD * (bD / (aD.gcd bD).gcd n.natAbs)) = 1 ∧ aD / aD.gcd bD * (bD / (aD.gcd bD).gcd n.natAbs) ≠ 0 := by
  have hg : 0 < aD.gcd bD := Nat.gcd_pos_of_pos_left _ h0
  obtain ⟨A, hA⟩ := Nat.gcd_dvd_left aD bD
  obtain ⟨B, hB⟩ := Nat.gcd_dvd_right aD bD
  have eA : aD / aD.gcd bD = A := by
    conv => lhs; lhs; rw [hA]
    exact Nat.mul_div_cancel_left _ hg
  have eB : bD / aD.gcd bD = B := by
    conv => lhs; lhs; rw [hB]
    exact Nat.mul_div_cancel_left _ hg
  have hAB : A.gcd B = 1 := by
    have := Nat.coprime_div_gcd_div_gcd hg
    rw [eA, eB] at this; exact this
  rw [eA, eB] at hn
  rw [eA]
  generalize aD.gcd bD = g at *
  have hp : 0 < g.gcd n.natAbs := Nat.gcd_pos_of_pos_left _ hg
  obtain ⟨G, hG⟩ := Nat.gcd_dvd_left g n.natAbs
  have hpn : ((g.gcd n.natAbs : Nat) : Int) ∣ n := Int.dvd_natAbs.1 (Int.natCast_dvd_natCast.2 (Nat.gcd_dvd_right g n.natAbs))
  obtain ⟨t, ht⟩ := hpn
  have hA0 : 0 < A := by rcases Nat.eq_zero_or_pos A with h | h; · subst h; simp at hA; omega
                         · exact h
  have hB0 : 0 < B := by rcases Nat.eq_zero_or_pos B with h | h; · subst h; simp at hB; omega
                         · exact h
  have hG0 : 0 < G := by rcases Nat.eq_zero_or_pos G with h | h; · subst h; simp at hG; omega
                         · exact h
  have c1 : n.natAbs.gcd A = 1 := cop_lin (a := aN) (b := bN) (B := B) (Nat.Coprime.coprime_dvd_right ⟨g, by rw [hA, Nat.mul_comm]⟩ ha) (by rw [Nat.gcd_comm]; exact hAB) hn
  have c2 : n.natAbs.gcd B = 1 := cop_lin (a := bN) (b := aN) (B := A) (Nat.Coprime.coprime_dvd_right ⟨g, by rw [hB, Nat.mul_comm]⟩ hb) hAB (by rw [hn]; omega)
  have c3 : G.gcd t.natAbs = 1 := by
    have := Nat.coprime_div_gcd_div_gcd hp
    have e1 : g / g.gcd n.natAbs = G := by
      conv => lhs; lhs; rw [hG]
      exact Nat.mul_div_cancel_left _ hp
    have e2 : n.natAbs / g.gcd n.natAbs = t.natAbs := by
      have : n.natAbs = g.gcd n.natAbs * t.natAbs := by
        conv => lhs; rw [ht]
        rw [Int.natAbs_mul, Int.natAbs_natCast]
      conv => lhs; lhs; rw [this]
      exact Nat.mul_div_cancel_left _ hp
    rw [e1, e2] at this; exact this
  have ht2 : t.natAbs ∣ n.natAbs := by
    refine ⟨g.gcd n.natAbs, ?_⟩
    conv => lhs; rw [ht]
    rw [Int.natAbs_mul, Int.natAbs_natCast, Nat.mul_comm]
  have eD : bD / g.gcd n.natAbs = G * B := by
    have : bD = g.gcd n.natAbs * (G * B) := by rw [← Nat.mul_assoc, ← hG]; exact hB
    conv => lhs; lhs; rw [this]
    exact Nat.mul_div_cancel_left _ hp
  refine ⟨t, ht, ?_, ?_, ?_⟩
  · rw [eD, q_div, q_div, q_div, hA, hB]
    generalize g.gcd n.natAbs = p at *
    have nA := cast_ne (d := A) (by omega)
    have nB := cast_ne (d := B) (by omega)
    have nG := cast_ne (d := G) (by omega)
    have np := cast_ne (d := p) (by omega)
    have e : (aN : Rat) * (B : Rat) + (bN : Rat) * (A : Rat) = (p : Rat) * (t : Rat) := by
      have : ((aN * (B : Int) + bN * (A : Int) : Int) : Rat) = (((p : Int) * t : Int) : Rat) := by rw [← hn, ← ht]
      simp only [Rat.intCast_add, Rat.intCast_mul, Rat.intCast_natCast] at this
      exact this
    subst hG
    simp only [Rat.natCast_mul]
    exact fsum nA nB nG np e
  · rw [eD]
    apply Nat.Coprime.mul_right
    · exact cop_dvd c1 ht2 (Nat.dvd_refl _)
    · apply Nat.Coprime.mul_right
      · rw [Nat.gcd_comm] at c3; exact c3
      · exact cop_dvd c2 ht2 (Nat.dvd_refl _)
  · rw [eD]
    exact Nat.ne_of_gt (Nat.mul_pos hA0 (Nat.mul_pos hG0 hB0))
end BallQ
namespace BallQ
/-- One digit of a quotient, Knuth's way: base B, a divisor y = y1 B + y0 whose first digit is at least half of B. -/
structure Digit (u c y y1 y0 B qh rh : Nat) : Prop where
  up : qh * y1 + rh = u
  ge : (u * B + c) / y ≤ qh
theorem digit_start {u c y y1 y0 B : Nat} (hy : y = y1 * B + y0) (_h1 : 0 < y1) (hc : c < B) : Digit u c y y1 y0 B (u / y1) (u % y1) := by
  refine ⟨by rw [Nat.mul_comm]; exact Nat.div_add_mod u y1, ?_⟩
  rw [Nat.le_div_iff_mul_le _h1]
  generalize hQ : (u * B + c) / y = Q
  have h := Nat.div_mul_le_self (u * B + c) y
  rw [hQ, hy, Nat.mul_add] at h
  have h2 : (Q * y1) * B ≤ u * B + c := by rw [← Nat.mul_assoc] at h; omega
  have hB : 0 < B := by omega
  rcases Nat.lt_or_ge u (Q * y1) with h3 | h3
  · have : (u + 1) * B ≤ (Q * y1) * B := Nat.mul_le_mul_right _ h3
    rw [Nat.add_mul] at this
    omega
  · exact h3
/-- The trial digit is too great where the test says so. -/
theorem digit_more {u c y y1 y0 B qh rh : Nat} (d : Digit u c y y1 y0 B qh rh) (hy : y = y1 * B + y0) (hyp : 0 < y) (hu : u < y) (hc : c < B) (h : B ≤ qh ∨ B * rh + c < qh * y0) : (u * B + c) / y < qh := by
  rcases h with h | h
  · have : (u * B + c) / y < B := by
      rw [Nat.div_lt_iff_lt_mul hyp]
      have : (u + 1) * B ≤ y * B := Nat.mul_le_mul_right _ hu
      rw [Nat.add_mul] at this
      have e : B * y = y * B := Nat.mul_comm _ _
      omega
    omega
  · rw [Nat.div_lt_iff_lt_mul hyp]
    have e1 : qh * y = (qh * y1) * B + qh * y0 := by rw [hy, Nat.mul_add, Nat.mul_assoc]
    have e2 : u * B = (qh * y1) * B + rh * B := by rw [← d.up, Nat.add_mul]
    have e3 : B * rh = rh * B := Nat.mul_comm _ _
    omega
theorem digit_step {u c y y1 y0 B qh rh : Nat} (d : Digit u c y y1 y0 B qh rh) (h : (u * B + c) / y < qh) : Digit u c y y1 y0 B (qh - 1) (rh + y1) := by
  refine ⟨?_, Nat.le_sub_one_of_lt h⟩
  have := d.up
  have hq : 0 < qh := Nat.lt_of_le_of_lt (Nat.zero_le _) h
  clear h d
  obtain ⟨k, rfl⟩ : ∃ k, qh = k + 1 := ⟨qh - 1, by omega⟩
  rw [Nat.add_mul] at this
  simp; omega
/-- It is the digit where the test says no. -/
theorem digit_end {u c y y1 y0 B qh rh : Nat} (d : Digit u c y y1 y0 B qh rh) (hy : y = y1 * B + y0) (hyp : 0 < y) (h : qh * y0 ≤ B * rh + c) : qh = (u * B + c) / y := by
  apply Nat.le_antisymm _ d.ge
  rw [Nat.le_div_iff_mul_le hyp]
  have e1 : qh * y = (qh * y1) * B + qh * y0 := by rw [hy, Nat.mul_add, Nat.mul_assoc]
  have e2 : u * B = (qh * y1) * B + rh * B := by rw [← d.up, Nat.add_mul]
  have e3 : B * rh = rh * B := Nat.mul_comm _ _
  omega
/-- Or where the rest has a digit more. -/
theorem digit_far {u c y y1 y0 B qh rh : Nat} (d : Digit u c y y1 y0 B qh rh) (hy : y = y1 * B + y0) (hyp : 0 < y) (h0 : y0 < B) (hq : qh ≤ B) (hr : B ≤ rh) : qh = (u * B + c) / y := by
  apply digit_end d hy hyp
  have h1 : qh * y0 ≤ B * B := Nat.mul_le_mul hq (by omega)
  have h2 : B * B ≤ B * rh := Nat.mul_le_mul_left _ hr
  omega
theorem digit_bound {u y y1 y0 B : Nat} (hy : y = y1 * B + y0) (hu : u < y) (h0 : y0 < B) (h1 : B ≤ 2 * y1) (hp : 0 < y1) : u / y1 ≤ B + 1 := by
  have : u < (B + 2) * y1 := by
    have e : (B + 2) * y1 = y1 * B + 2 * y1 := by rw [Nat.add_mul, Nat.mul_comm]
    omega
  have := (Nat.div_lt_iff_lt_mul hp).2 this
  omega
theorem two_digits {U y B u c1 c0 : Nat} (hyp : 0 < y) (hU : U = u * (B * B) + (c1 * B + c0)) :
    U / y = (u * B + c1) / y * B + (((u * B + c1) % y) * B + c0) / y ∧ U % y = (((u * B + c1) % y) * B + c0) % y := by
  have h1 := Nat.div_add_mod (u * B + c1) y
  generalize (u * B + c1) / y = q1 at *
  generalize (u * B + c1) % y = r1 at *
  have e : U = y * (q1 * B) + (r1 * B + c0) := by
    have : U = (u * B + c1) * B + c0 := by rw [hU]; grind
    rw [this, ← h1]; grind
  rw [e]
  constructor
  · rw [Nat.mul_add_div hyp]
  · rw [Nat.mul_add_mod]
end BallQ
namespace Go.E
open Go Go.Eng
open BallQ (In64 Right q out fits put)
instance in64Dec (a : Int) : Decidable (BallQ.In64 a) := inferInstanceAs (Decidable (_ ∧ _))
theorem wu64 (n : Int) : IntKind.u64.wrap n = n % 18446744073709551616 := by
  simp [IntKind.wrap, IntKind.signed, IntKind.bits]
theorem wi64 (n : Int) : IntKind.i64.wrap n = (n + 9223372036854775808) % 18446744073709551616 - 9223372036854775808 := by
  simp [IntKind.wrap, IntKind.signed, IntKind.bits]
  omega
theorem wi64_id {n : Int} (h : In64 n) : IntKind.i64.wrap n = n := by
  obtain ⟨h0, h1⟩ := h
  rw [wi64]; omega
theorem andI_eq (k : IntKind) (a b : Int) : andI k a b = bits .and k a b := rfl
theorem orI_eq (k : IntKind) (a b : Int) : orI k a b = bits .or k a b := rfl
theorem wraps_u64 (n : Int) (h₀ : 0 ≤ n) (h₁ : n < 2 ^ 64) : IntKind.u64.wrap n = n := by rw [wu64]; omega
theorem and32 (x : Nat) (h : x < 18446744073709551616) : andI .u64 (x : Int) 4294967295 = ((x % 4294967296 : Nat) : Int) := by
  rw [andI_eq]
  have := bits_mask .u64 64 (by decide) wraps_u64 32 (by decide) (x : Int) (by omega) (by omega)
  have e : ((2 : Int) ^ 32 - 1) = 4294967295 := by decide
  rw [e] at this
  rw [this]; omega
theorem mul_split (x1 x0 y1 y0 B : Nat) (hB : 0 < B) : (x1 * B + x0) * (y1 * B + y0) / (B * B) = x1 * y1 + (x1 * y0 + x0 * y0 / B) / B + ((x1 * y0 + x0 * y0 / B) % B + x0 * y1) / B := by
  have h1 := Nat.div_add_mod (x0 * y0) B
  have h2 := Nat.div_add_mod (x1 * y0 + x0 * y0 / B) B
  generalize hw : x0 * y0 / B = w at *
  generalize hr : x0 * y0 % B = r at *
  generalize hu : (x1 * y0 + w) / B = u at *
  generalize hv : (x1 * y0 + w) % B = v at *
  have hrB : r < B := by rw [← hr]; exact Nat.mod_lt _ hB
  have h3 := Nat.div_add_mod (v + x0 * y1) B
  generalize hs : (v + x0 * y1) / B = s at *
  have htB : (v + x0 * y1) % B < B := Nat.mod_lt _ hB
  generalize (v + x0 * y1) % B = t at *
  have e : (x1 * B + x0) * (y1 * B + y0) = (x1 * y1 + u + s) * (B * B) + (t * B + r) := by
    have a1 : (x1 * B + x0) * (y1 * B + y0) = x1 * y1 * (B * B) + (x1 * y0) * B + (x0 * y1) * B + x0 * y0 := by grind
    have a2 : (x1 * y0 + w) * B = (B * u + v) * B := by rw [h2]
    have a3 : (v + x0 * y1) * B = (B * s + t) * B := by rw [h3]
    rw [a1, ← h1]
    have b1 : (x1 * y0) * B + w * B = B * u * B + v * B := by rw [← Nat.add_mul, ← Nat.add_mul]; exact a2
    have b2 : v * B + x0 * y1 * B = B * s * B + t * B := by rw [← Nat.add_mul, ← Nat.add_mul]; exact a3
    have c1 : (x1 * y1 + u + s) * (B * B) = x1 * y1 * (B * B) + B * u * B + B * s * B := by grind
    have c2 : B * w = w * B := Nat.mul_comm _ _
    rw [c1, c2]
    omega
  rw [e]
  have hlt : t * B + r < B * B := by
    have : (t + 1) * B ≤ B * B := Nat.mul_le_mul_right _ htB
    rw [Nat.add_mul] at this; omega
  rw [Nat.mul_comm, Nat.mul_add_div (Nat.mul_pos hB hB), Nat.div_eq_of_lt hlt, Nat.add_zero]
theorem mul_lt {a b A B : Nat} (ha : a < A) (hb : b < B) : a * b ≤ (A - 1) * (B - 1) := Nat.mul_le_mul (by omega) (by omega)
theorem signed_mul (a b : Int) : a * b = if (decide (a < 0) != decide (b < 0)) = true then -((a.natAbs * b.natAbs : Nat) : Int) else ((a.natAbs * b.natAbs : Nat) : Int) := by
  rcases Int.natAbs_eq a with ea | ea <;> rcases Int.natAbs_eq b with eb | eb
  all_goals
    generalize a.natAbs = m at *
    generalize b.natAbs = n at *
    subst ea eb
    simp only [Int.natCast_mul]
  · have h1 : ¬ ((m : Int) < 0) := by omega
    have h2 : ¬ ((n : Int) < 0) := by omega
    simp [h1, h2]
  · have h1 : ¬ ((m : Int) < 0) := by omega
    by_cases h2 : -(n : Int) < 0
    · simp [h1]; rw [if_pos (by omega), Int.mul_neg]
    · have : n = 0 := by omega
      subst this; simp
  · have h1 : ¬ ((n : Int) < 0) := by omega
    by_cases h2 : -(m : Int) < 0
    · simp [h1]; rw [if_pos (by omega), Int.neg_mul]
    · have : m = 0 := by omega
      subst this; simp
  · by_cases h1 : -(m : Int) < 0 <;> by_cases h2 : -(n : Int) < 0
    · simp; rw [if_pos (by constructor <;> intro <;> omega), Int.neg_mul_neg]
    · have : n = 0 := by omega
      subst this; simp
    · have : m = 0 := by omega
      subst this; simp
    · have : m = 0 := by omega
      subst this; simp
theorem natAbs_le {a : Int} (h : In64 a) : a.natAbs ≤ 9223372036854775808 := by have := h.1; have := h.2; omega
theorem u64n (a : Nat) (h : a < 18446744073709551616) : IntKind.u64.wrap (a : Int) = (a : Int) := by rw [wu64]; omega
structure Norm (y y1 y0 : Nat) : Prop where
  e : y = y1 * 4294967296 + y0
  lo : 9223372036854775808 ≤ y
  hi : y < 18446744073709551616
  d0 : y0 < 4294967296
theorem Norm.half {y y1 y0 : Nat} (n : Norm y y1 y0) : 2147483648 ≤ y1 ∧ y1 < 4294967296 := by
  have := n.e; have := n.lo; have := n.hi; have := n.d0; omega
theorem test_eq {q y0 rh c : Nat} (hq : q < 4294967296) (hy0 : y0 < 4294967296) (hr : rh < 4294967296) (hc : c < 4294967296) :
    decide ((IntKind.u64.wrap ((q : Int) * (y0 : Int))) > (IntKind.u64.wrap ((IntKind.u64.wrap (4294967296 * (rh : Int))) + (c : Int)))) = decide (4294967296 * rh + c < q * y0) := by
  have m := mul_lt hq hy0
  have e1 : IntKind.u64.wrap ((q : Int) * (y0 : Int)) = ((q * y0 : Nat) : Int) := by rw [wu64, ← Int.natCast_mul]; omega
  have e2 : IntKind.u64.wrap (4294967296 * (rh : Int)) = ((4294967296 * rh : Nat) : Int) := by rw [wu64]; omega
  have e3 : IntKind.u64.wrap (((4294967296 * rh : Nat) : Int) + (c : Int)) = ((4294967296 * rh + c : Nat) : Int) := by rw [wu64]; omega
  rw [e1, e2, e3, decide_eq_decide]
  omega
theorem rest_eq {u c y Q : Nat} (hQ : Q = (u * 4294967296 + c) / y) (hy : 0 < y) (hy1 : y < 18446744073709551616) :
    IntKind.u64.wrap ((IntKind.u64.wrap ((IntKind.u64.wrap ((u : Int) * 4294967296)) + (c : Int))) - (IntKind.u64.wrap ((Q : Int) * (y : Int)))) = (((u * 4294967296 + c) % y : Nat) : Int) := by
  have h := Nat.div_add_mod (u * 4294967296 + c) y
  have hlt := Nat.mod_lt (u * 4294967296 + c) hy
  rw [← hQ, Nat.mul_comm] at h
  rw [wu64, wu64, wu64, wu64, ← Int.natCast_mul Q y]
  generalize Q * y = p at *
  generalize (u * 4294967296 + c) % y = R at *
  clear hQ
  omega
theorem sub_mul_eq {R y1 : Nat} (hR : R < 18446744073709551616) :
    IntKind.u64.wrap (Int.tdiv (R : Int) (y1 : Int)) = ((R / y1 : Nat) : Int) ∧ IntKind.u64.wrap ((R : Int) - (IntKind.u64.wrap (((R / y1 : Nat) : Int) * (y1 : Int)))) = ((R % y1 : Nat) : Int) := by
  have h := Nat.div_add_mod R y1
  have hd : R / y1 ≤ R := Nat.div_le_self R y1
  constructor
  · rw [Int.tdiv_eq_ediv_of_nonneg (by omega), ← Int.natCast_ediv, wu64]
    generalize R / y1 = v at *
    omega
  · rw [wu64, wu64, ← Int.natCast_mul, Nat.mul_comm (R / y1) y1]
    generalize y1 * (R / y1) = p at *
    generalize R % y1 = m at *
    omega
theorem shr_eq (x s : Nat) (hs : s ≤ 64) : shrI .u64 (x : Int) (s : Int) = ((x / 2 ^ s : Nat) : Int) := by
  unfold shrI
  have : min (s : Int).toNat (IntKind.u64.bits) = s := by simp [IntKind.bits]; omega
  rw [this, Int.fdiv_eq_ediv_of_nonneg _ (by exact_mod_cast Nat.zero_le _)]; simp
theorem shl_eq (x s : Nat) (hs : s ≤ 64) : shlI .u64 (x : Int) (s : Int) = ((x * 2 ^ s % 18446744073709551616 : Nat) : Int) := by
  unfold shlI
  have : min (s : Int).toNat (IntKind.u64.bits) = s := by simp [IntKind.bits]; omega
  rw [this, wu64]; simp
theorem or_eq {x y s : Nat} (hx : x * 2 ^ s < 18446744073709551616) (hy : y < 2 ^ s) (hs : s ≤ 64) : orI .u64 ((x * 2 ^ s : Nat) : Int) (y : Int) = ((x * 2 ^ s + y : Nat) : Int) := by
  have hp : 2 ^ s ≤ 18446744073709551616 := Nat.pow_le_pow_right (n := 2) (by decide) hs
  have e : ((2 : Int) ^ s) = ((2 ^ s : Nat) : Int) := by simp
  have h1 : ((x * 2 ^ s : Nat) : Int) % 2 ^ s = 0 := by rw [e, ← Int.natCast_emod, Nat.mul_mod_left]; rfl
  have h2 : (y : Int) < 2 ^ s := by rw [e]; exact Int.ofNat_lt.2 hy
  have h3 : ((x * 2 ^ s : Nat) : Int) < 2 ^ 64 := Int.ofNat_lt.2 hx
  have h4 : (y : Int) < 2 ^ 64 := Int.ofNat_lt.2 (Nat.lt_of_lt_of_le hy hp)
  rw [orI_eq]
  have := bits_join .u64 64 (by decide) wraps_u64 s ((x * 2 ^ s : Nat) : Int) (y : Int) (Int.natCast_nonneg _) h1 h3 (Int.natCast_nonneg _) h2 h4
  rw [this]; simp
theorem shift_parts {hi lo y p r : Nat} (hpp : r * p = 18446744073709551616) (h : hi < y) (hl : lo < 18446744073709551616) (sN : y * p < 18446744073709551616) :
    hi * p < 18446744073709551616 ∧ lo / r < p ∧ hi * p + lo / r < y * p ∧ (hi * 18446744073709551616 + lo) * p = (hi * p + lo / r) * 18446744073709551616 + lo * p % 18446744073709551616 := by
  have p0 : 0 < p := by rcases Nat.eq_zero_or_pos p with e | e; · subst e; simp at hpp
                        · exact e
  have r0 : 0 < r := by rcases Nat.eq_zero_or_pos r with e | e; · subst e; simp at hpp
                        · exact e
  have h1 : (hi + 1) * p ≤ y * p := Nat.mul_le_mul_right _ h
  rw [Nat.add_mul, Nat.one_mul] at h1
  have h2 : lo / r < p := by rw [Nat.div_lt_iff_lt_mul r0, Nat.mul_comm, hpp]; exact hl
  have a1 := Nat.div_add_mod (lo * p) 18446744073709551616
  have a2 : lo * p / 18446744073709551616 = lo / r := by rw [← hpp, Nat.mul_div_mul_right _ _ p0]
  rw [a2] at a1
  have a3 : (hi * 18446744073709551616 + lo) * p = hi * p * 18446744073709551616 + lo * p := by grind
  rw [a3]
  generalize hi * p = A at *
  generalize y * p = Y at *
  generalize lo * p = L at *
  generalize lo / r = D at *
  clear hpp a2 a3
  omega
theorem right_nat {n d : Int} (h : Right n d) (hd : In64 d) : ∃ D : Nat, d = (D : Int) ∧ 0 < D ∧ D < 9223372036854775808 ∧ n.natAbs.gcd D = 1 := by
  obtain ⟨h0, _, h2⟩ := h
  have := hd.2
  refine ⟨d.natAbs, by omega, by omega, by omega, h2⟩
theorem out_zero : out 0 = (0, 1, 0) := by decide +kernel
theorem or_zero {a b : Nat} (ha : a < 18446744073709551616) (hb : b < 18446744073709551616) : orI .u64 (a : Int) (b : Int) = 0 ↔ a = 0 ∧ b = 0 := by
  rw [orI_eq]
  have := (bits_nat .u64 64 (by decide) wraps_u64 a b (by omega) (by omega)).2
  rw [this]
  have e : ((a ||| b : Nat) : Int) = 0 ↔ (a ||| b) = 0 := by omega
  rw [e, Nat.or_eq_zero_iff]
theorem gcd_le_right {a b : Nat} (hb : 0 < b) : a.gcd b ≤ b := Nat.gcd_le_right a hb
def addS (aN aD bN bD : Int) : Int × Int × Int := if Right aN aD ∧ Right bN bD then out (q aN aD + q bN bD) else (0, 0, 2)
theorem add_fin {v t : Int} {p D : Nat} (hp0 : 0 < p) (ht : v = (p : Int) * t) (m : Bool) :
    (¬ v.natAbs / 18446744073709551616 < p → put t.natAbs D m = (0, 0, 3)) ∧ (v.natAbs / 18446744073709551616 < p → t.natAbs < 18446744073709551616) ∧ v.natAbs / p = t.natAbs := by
  have e : v.natAbs = p * t.natAbs := by rw [ht, Int.natAbs_mul, Int.natAbs_natCast]
  have e2 : v.natAbs / p = t.natAbs := by rw [e]; exact Nat.mul_div_cancel_left _ hp0
  refine ⟨?_, ?_, e2⟩
  · intro h
    have h1 : p * 18446744073709551616 ≤ v.natAbs := by
      have := Nat.div_mul_le_self v.natAbs 18446744073709551616
      have h3 := Nat.mul_le_mul_right 18446744073709551616 (Nat.not_lt.1 h)
      exact Nat.le_trans h3 this
    have h2 : 18446744073709551616 ≤ t.natAbs := by
      rw [← e2, Nat.le_div_iff_mul_le hp0, Nat.mul_comm]; exact h1
    unfold BallQ.put
    rw [if_neg]
    intro h3
    have := h3.1
    clear h3 h1 e e2 ht h
    omega
  · intro h
    rw [← e2, Nat.div_lt_iff_lt_mul hp0]
    have h1 := (Nat.div_lt_iff_lt_mul (show 0 < 18446744073709551616 by decide)).1 h
    rw [Nat.mul_comm]; exact h1
theorem in64_nat {n : Nat} (h : n < 9223372036854775808) : In64 (n : Int) := ⟨by omega, by omega⟩
theorem lt64 {n : Nat} (h : n < 9223372036854775808) : n < 18446744073709551616 := by omega
theorem pos_ne {n : Nat} (h : 0 < n) : ¬ ((n : Nat) : Int) = 0 := by omega
theorem sign_of {v t : Int} {p : Nat} (hp0 : 0 < p) (ht : v = (p : Int) * t) : decide (v < 0) = decide (t < 0) := by
  rw [decide_eq_decide, ht]
  have hp : (0 : Int) < (p : Int) := by omega
  constructor
  · intro h
    by_cases h' : t < 0
    · exact h'
    · have := Int.mul_nonneg (Int.le_of_lt hp) (Int.not_lt.1 h')
      exact absurd h (Int.not_lt.2 this)
  · intro h; exact Int.mul_neg_of_pos_of_neg hp h
theorem nat_split (n : Nat) (h : n < 340282366920938463463374607431768211456) : n / 18446744073709551616 * 18446744073709551616 + n % 18446744073709551616 = n ∧ n / 18446744073709551616 < 18446744073709551616 ∧ n % 18446744073709551616 < 18446744073709551616 := by omega
theorem sum_bound {x y : Int} (hx : x.natAbs ≤ 9223372036854775808 * 9223372036854775808) (hy : y.natAbs ≤ 9223372036854775808 * 9223372036854775808) : (x + y).natAbs < 340282366920938463463374607431768211456 := by omega
theorem prod_bound {x : Int} {n : Nat} (hx : In64 x) (hn : n < 9223372036854775808) : (x * (n : Int)).natAbs ≤ 9223372036854775808 * 9223372036854775808 := by
  rw [Int.natAbs_mul]; exact Nat.mul_le_mul (natAbs_le hx) (by rw [Int.natAbs_natCast]; omega)
theorem div_exact {a : Int} {x : Nat} (h : x ∣ a.natAbs) (hx : 0 < x) : ∃ t : Int, a = (x : Int) * t ∧ a.natAbs / x = t.natAbs := by
  have hd : (x : Int) ∣ a := Int.dvd_natAbs.1 (Int.natCast_dvd_natCast.2 h)
  obtain ⟨t, ht⟩ := hd
  refine ⟨t, ht, ?_⟩
  have e : a.natAbs = x * t.natAbs := by rw [ht, Int.natAbs_mul, Int.natAbs_natCast]
  rw [e]; exact Nat.mul_div_cancel_left _ hx
theorem mul_parts {aN bN : Int} {A B : Nat} (ha : aN.natAbs.gcd A = 1) (hb : bN.natAbs.gcd B = 1) (hA : 0 < A) (hB : 0 < B) (m : Bool) (hm : aN ≠ 0 → bN ≠ 0 → m = (decide (aN < 0) != decide (bN < 0))) :
    out (mkRat aN A * mkRat bN B) = put (aN.natAbs / aN.natAbs.gcd B * (bN.natAbs / bN.natAbs.gcd A)) (A / bN.natAbs.gcd A * (B / aN.natAbs.gcd B)) m := by
  have g1 : 0 < aN.natAbs.gcd B := Nat.gcd_pos_of_pos_right _ hB
  have g2 : 0 < bN.natAbs.gcd A := Nat.gcd_pos_of_pos_right _ hA
  have hc := BallQ.mul_cop ha hb hA hB
  obtain ⟨a', ha', ea⟩ := div_exact (Nat.gcd_dvd_left aN.natAbs B) g1
  obtain ⟨b', hb', eb⟩ := div_exact (Nat.gcd_dvd_left bN.natAbs A) g2
  obtain ⟨A', hA'⟩ := Nat.gcd_dvd_right bN.natAbs A
  obtain ⟨B', hB'⟩ := Nat.gcd_dvd_right aN.natAbs B
  have eA : A / bN.natAbs.gcd A = A' := by
    conv => lhs; lhs; rw [hA']
    exact Nat.mul_div_cancel_left _ g2
  have eB : B / aN.natAbs.gcd B = B' := by
    conv => lhs; lhs; rw [hB']
    exact Nat.mul_div_cancel_left _ g1
  rw [ea, eb, eA, eB] at hc
  rw [ea, eb, eA, eB]
  have hv : mkRat aN A * mkRat bN B = mkRat (a' * b') (A' * B') := by
    rw [Rat.mkRat_mul_mkRat]
    have e1 : aN * bN = ((aN.natAbs.gcd B * bN.natAbs.gcd A : Nat) : Int) * (a' * b') := by
      conv => lhs; rw [ha', hb']
      rw [Int.natCast_mul]; grind
    have e2 : A * B = aN.natAbs.gcd B * bN.natAbs.gcd A * (A' * B') := by
      conv => lhs; rw [hA', hB']
      grind
    rw [e1, e2]
    exact Rat.mkRat_mul_left (Nat.ne_of_gt (Nat.mul_pos g1 g2))
  rw [hv]
  have hA0 : A' ≠ 0 := by intro h; rw [h] at hA'; simp at hA'; omega
  have hB0 : B' ≠ 0 := by intro h; rw [h] at hB'; simp at hB'; omega
  have hn : (a' * b').natAbs = a'.natAbs * b'.natAbs := Int.natAbs_mul _ _
  rw [← hn] at hc ⊢
  refine BallQ.out_cop _ _ (Nat.mul_ne_zero hA0 hB0) hc m (fun h => ?_)
  have ha0 : a' ≠ 0 := by intro e; apply h; rw [e]; simp
  have hb0 : b' ≠ 0 := by intro e; apply h; rw [e]; simp
  have hma : decide (aN < 0) = decide (a' < 0) := sign_of g1 ha'
  have hmb : decide (bN < 0) = decide (b' < 0) := sign_of g2 hb'
  have na : aN ≠ 0 := by rw [ha']; intro e; rcases Int.mul_eq_zero.1 e with e | e; · omega
                         · exact ha0 e
  have nb : bN ≠ 0 := by rw [hb']; intro e; rcases Int.mul_eq_zero.1 e with e | e; · omega
                         · exact hb0 e
  rw [hm na nb, hma, hmb]
  by_cases p1 : a' < 0 <;> by_cases p2 : b' < 0
  · have : ¬ a' * b' < 0 := by have := Int.mul_pos_of_neg_of_neg p1 p2; omega
    simp [p1, p2, this]
  · have : a' * b' < 0 := Int.mul_neg_of_neg_of_pos p1 (by omega)
    simp [p1, p2, this]
  · have : a' * b' < 0 := Int.mul_neg_of_pos_of_neg (by omega) p2
    simp [p1, p2, this]
  · have : ¬ a' * b' < 0 := by have := Int.mul_nonneg (Int.not_lt.1 p1) (Int.not_lt.1 p2); omega
    simp [p1, p2, this]
def mulS (aN aD bN bD : Int) : Int × Int × Int := if Right aN aD ∧ Right bN bD then out (q aN aD * q bN bD) else (0, 0, 2)
theorem big_put {n d : Nat} {m : Bool} (h : ¬ n < 18446744073709551616 ∨ ¬ d < 18446744073709551616) : put n d m = (0, 0, 3) := by
  unfold BallQ.put
  rw [if_neg]
  intro h2
  rcases h with h | h
  · exact h (lt64 h2.1)
  · exact h (lt64 h2.2)
theorem out_ok {x : Rat} (h : fits x) : out x = (x.num, (x.den : Int), 0) := by unfold BallQ.out; rw [if_pos h]
theorem out_over {x : Rat} (h : ¬ fits x) : out x = (0, 0, 3) := by unfold BallQ.out; rw [if_neg h]
theorem addS_fits {x y : Rat} (hx : fits x) (hy : fits y) : addS x.num x.den y.num y.den = out (x + y) := by
  unfold addS
  rw [if_pos ⟨(BallQ.right_fits hx).1, (BallQ.right_fits hy).1⟩, BallQ.q_self, BallQ.q_self]
theorem mulS_fits {x y : Rat} (hx : fits x) (hy : fits y) : mulS x.num x.den y.num y.den = out (x * y) := by
  unfold mulS
  rw [if_pos ⟨(BallQ.right_fits hx).1, (BallQ.right_fits hy).1⟩, BallQ.q_self, BallQ.q_self]
theorem right_rat {n d : Int} (h : Right n d) (hn : In64 n) (hd : In64 d) : ∃ x : Rat, fits x ∧ n = x.num ∧ d = (x.den : Int) := by
  obtain ⟨h0, h1, h2⟩ := BallQ.q_right h hn hd
  exact ⟨q n d, h2, h0.symm, h1.symm⟩
theorem right_neg {n d : Int} (h : Right n d) (hn : In64 n) : Right (-n) d ∧ In64 (-n) ∧ q (-n) d = -q n d := by
  obtain ⟨h0, h1, h2⟩ := h
  obtain ⟨n0, n1⟩ := hn
  refine ⟨⟨h0, by omega, by rw [Int.natAbs_neg]; exact h2⟩, ⟨by omega, by omega⟩, ?_⟩
  unfold BallQ.q
  rw [Rat.neg_mkRat]
end Go.E
