import Derived.Laws.BitsLemmas
import Derived.Test.YtfcehcjhilmlgaaSc6
section
set_option linter.all false
namespace BallQ
def fits (x : Rat) : Prop := x.num.natAbs < 9223372036854775808 ∧ x.den < 9223372036854775808
instance (x : Rat) : Decidable (fits x) := by unfold fits; infer_instance
def out (x : Rat) : Int × Int × Int := if fits x then (x.num, (x.den : Int), 0) else (0, 0, 3)
def put (n d : Nat) (m : Bool) : Int × Int × Int := if n < 9223372036854775808 ∧ d < 9223372036854775808 then ((if m then -(n : Int) else (n : Int)), (d : Int), 0) else (0, 0, 3)
def In64 (a : Int) : Prop := -9223372036854775808 ≤ a ∧ a ≤ 9223372036854775807
def Right (n d : Int) : Prop := 0 < d ∧ n ≠ -9223372036854775808 ∧ Nat.gcd n.natAbs d.natAbs = 1
instance (n d : Int) : Decidable (Right n d) := by unfold Right; infer_instance
def q (n d : Int) : Rat := mkRat n d.toNat
theorem q_right {n d : Int} (h : Right n d) (hn : In64 n) (hd : In64 d) : (q n d).num = n ∧ ((q n d).den : Int) = d ∧ fits (q n d) := by
  obtain ⟨h0, h1, h2⟩ := h
  have hdn : d.toNat ≠ 0 := by omega
  have hc : n.natAbs.Coprime d.toNat := by
    have : d.toNat = d.natAbs := by omega
    rw [this]; exact h2
  have e := Rat.mk_eq_mkRat n d.toNat hdn hc
  unfold q
  rw [← e]
  obtain ⟨n0, n1⟩ := hn
  obtain ⟨d0, d1⟩ := hd
  refine ⟨rfl, by show (d.toNat : Int) = d; omega, ?_⟩
  unfold fits
  show n.natAbs < _ ∧ d.toNat < _
  omega
theorem right_fits {x : Rat} (h : fits x) : Right x.num x.den ∧ In64 x.num ∧ In64 (x.den : Int) := by
  obtain ⟨h0, h1⟩ := h
  have hp := x.den_pos
  refine ⟨⟨by omega, by omega, ?_⟩, ⟨by omega, by omega⟩, ⟨by omega, by omega⟩⟩
  have := x.reduced
  exact this
theorem q_self (x : Rat) : q x.num x.den = x := by
  unfold q
  rw [Int.toNat_natCast, Rat.mkRat_self]
theorem right_inj {a b c d : Int} (h : Right a b) (ha : In64 a) (hb : In64 b) (k : Right c d) (hc : In64 c) (hd : In64 d) (e : q a b = q c d) : a = c ∧ b = d := by
  obtain ⟨h0, h1, _⟩ := q_right h ha hb
  obtain ⟨k0, k1, _⟩ := q_right k hc hd
  rw [e] at h0 h1
  omega
theorem out_cop (N : Int) (D : Nat) (h : D ≠ 0) (c : N.natAbs.gcd D = 1) (m : Bool) (hm : N ≠ 0 → m = decide (N < 0)) : out (mkRat N D) = put N.natAbs D m := by
  rw [← Rat.mk_eq_mkRat N D h c]
  have e : (if m then -(N.natAbs : Int) else (N.natAbs : Int)) = N := by
    by_cases h0 : N = 0
    · subst h0; simp
    · rw [hm h0]
      by_cases hn : N < 0
      · simp only [hn, decide_true, if_true]; omega
      · simp only [hn, decide_false, Bool.false_eq_true, if_false]; omega
  unfold out put fits
  dsimp only
  rw [e]
theorem q_div (n : Int) (d : Nat) : mkRat n d = (n : Rat) / (d : Rat) := Rat.mkRat_eq_div n d
theorem cast_ne {d : Nat} (h : d ≠ 0) : (d : Rat) ≠ 0 := by exact_mod_cast h
theorem cop_of {a b g : Nat} (hg : 0 < g) (e : a.gcd b = g) : (a / g).gcd (b / g) = 1 := by
  subst e; exact Nat.coprime_div_gcd_div_gcd hg
theorem cop_dvd {a b c d : Nat} (h : a.gcd b = 1) (hc : c ∣ a) (hd : d ∣ b) : c.gcd d = 1 := Nat.Coprime.coprime_dvd_left hc (Nat.Coprime.coprime_dvd_right hd h)
theorem mul_cop {a b c d : Nat} (h1 : a.gcd b = 1) (h2 : c.gcd d = 1) (hb : 0 < b) (hd : 0 < d) :
    ((a / a.gcd d) * (c / c.gcd b)).gcd ((b / c.gcd b) * (d / a.gcd d)) = 1 := by
  have g1 : 0 < a.gcd d := Nat.gcd_pos_of_pos_right _ hd
  have g2 : 0 < c.gcd b := Nat.gcd_pos_of_pos_right _ hb
  have k1 := Nat.div_dvd_of_dvd (Nat.gcd_dvd_left a d)
  have k2 := Nat.div_dvd_of_dvd (Nat.gcd_dvd_right a d)
  have k3 := Nat.div_dvd_of_dvd (Nat.gcd_dvd_left c b)
  have k4 := Nat.div_dvd_of_dvd (Nat.gcd_dvd_right c b)
  apply Nat.Coprime.mul_left
  · apply Nat.Coprime.mul_right
    · exact cop_dvd h1 k1 k4
    · exact cop_of g1 rfl
  · apply Nat.Coprime.mul_right
    · exact cop_of g2 rfl
    · exact cop_dvd h2 k3 k2
theorem dvd_natAbs' {p : Nat} {x : Int} (h : (p : Int) ∣ x) : p ∣ x.natAbs := by
  have := Int.natAbs_dvd_natAbs.2 h
  simpa using this
theorem cop_lin {a b x : Int} {A B : Nat} (ha : a.natAbs.gcd A = 1) (hB : B.gcd A = 1) (hx : x = a * B + b * A) : x.natAbs.gcd A = 1 := by
  have hp : x.natAbs.gcd A ∣ A := Nat.gcd_dvd_right _ _
  have hq : x.natAbs.gcd A ∣ x.natAbs := Nat.gcd_dvd_left _ _
  have h1 : ((x.natAbs.gcd A : Nat) : Int) ∣ x := Int.dvd_natAbs.1 (Int.natCast_dvd_natCast.2 hq)
  have h2 : ((x.natAbs.gcd A : Nat) : Int) ∣ (A : Int) := Int.natCast_dvd_natCast.2 hp
  have h3 : ((x.natAbs.gcd A : Nat) : Int) ∣ a * B := by
    have e : a * B = x - b * A := by rw [hx]; omega
    rw [e]
    exact Int.dvd_sub h1 (Int.dvd_mul_of_dvd_right h2)
  have h4 : x.natAbs.gcd A ∣ a.natAbs * B := by
    have := dvd_natAbs' h3
    rwa [Int.natAbs_mul, Int.natAbs_natCast] at this
  have h5 : (a.natAbs * B).gcd A = 1 := Nat.Coprime.mul_left ha hB
  have := Nat.dvd_gcd h4 hp
  rw [h5] at this
  exact Nat.dvd_one.1 this
theorem fsum {a b A B G p t : Rat} (hA : A ≠ 0) (hB : B ≠ 0) (hG : G ≠ 0) (hp : p ≠ 0) (e : a * B + b * A = p * t) : a / (p * G * A) + b / (p * G * B) = t / (A * (G * B)) := by
  have h1 : p * G * A ≠ 0 := by simp [Rat.mul_eq_zero, *]
  have h2 : p * G * B ≠ 0 := by simp [Rat.mul_eq_zero, *]
  have h3 : A * (G * B) ≠ 0 := by simp [Rat.mul_eq_zero, *]
  have k : (a / (p * G * A) + b / (p * G * B)) * (p * (A * (G * B))) = a * B + b * A := by
    have e1 : a / (p * G * A) * (p * (A * (G * B))) = a * B := by
      have : p * (A * (G * B)) = p * G * A * B := by grind
      rw [this, ← Rat.mul_assoc, Rat.div_mul_cancel h1]
    have e2 : b / (p * G * B) * (p * (A * (G * B))) = b * A := by
      have : p * (A * (G * B)) = p * G * B * A := by grind
      rw [this, ← Rat.mul_assoc, Rat.div_mul_cancel h2]
    rw [Rat.add_mul, e1, e2]
  have k2 : t / (A * (G * B)) * (p * (A * (G * B))) = p * t := by
    have : p * (A * (G * B)) = (A * (G * B)) * p := by grind
    rw [this, ← Rat.mul_assoc, Rat.div_mul_cancel h3, Rat.mul_comm]
  have k3 : p * (A * (G * B)) ≠ 0 := by simp only [ne_eq, Rat.mul_eq_zero, not_or]; exact ⟨hp, hA, hG, hB⟩
  have k4 : (a / (p * G * A) + b / (p * G * B)) * (p * (A * (G * B))) = t / (A * (G * B)) * (p * (A * (G * B))) := by rw [k, k2, e]
  generalize a / (p * G * A) + b / (p * G * B) = u at *
  generalize t / (A * (G * B)) = v at *
  generalize p * (A * (G * B)) = w at *
  grind
theorem add_parts {aN bN : Int} {aD bD : Nat} (ha : aN.natAbs.gcd aD = 1) (hb : bN.natAbs.gcd bD = 1) (h0 : 0 < aD) (h1 : 0 < bD) (n : Int)
    (hn : n = aN * ((bD / aD.gcd bD : Nat) : Int) + bN * ((aD / aD.gcd bD : Nat) : Int)) :
    ∃ t : Int, n = ((aD.gcd bD).gcd n.natAbs : Nat) * t ∧ mkRat aN aD + mkRat bN bD = mkRat t (aD / aD.gcd bD * (bD / (aD.gcd bD).gcd n.natAbs)) ∧ t.natAbs.gcd (aD / aD.gcd bD * (bD / (aD.gcd bD).gcd n.natAbs)) = 1 ∧ aD / aD.gcd bD * (bD / (aD.gcd bD).gcd n.natAbs) ≠ 0 := by
  have hg : 0 < aD.gcd bD := Nat.gcd_pos_of_pos_left _ h0
  obtain ⟨A, hA⟩ := Nat.gcd_dvd_left aD bD
  obtain ⟨B, hB⟩ := Nat.gcd_dvd_right aD bD
  have eA : aD / aD.gcd bD = A := by
    conv => lhs; lhs; rw [hA]
    exact Nat.mul_div_cancel_left _ hg
  have eB : bD / aD.gcd bD = B := by
    conv => lhs; lhs; rw [hB]
    exact Nat.mul_div_cancel_left _ hg
  have hAB : A.gcd B = 1 := by
    have := Nat.coprime_div_gcd_div_gcd hg
    rw [eA, eB] at this; exact this
  rw [eA, eB] at hn
  rw [eA]
  generalize aD.gcd bD = g at *
  have hp : 0 < g.gcd n.natAbs := Nat.gcd_pos_of_pos_left _ hg
  obtain ⟨G, hG⟩ := Nat.gcd_dvd_left g n.natAbs
  have hpn : ((g.gcd n.natAbs : Nat) : Int) ∣ n := Int.dvd_natAbs.1 (Int.natCast_dvd_natCast.2 (Nat.gcd_dvd_right g n.natAbs))
  obtain ⟨t, ht⟩ := hpn
  have hA0 : 0 < A := by rcases Nat.eq_zero_or_pos A with h | h; · subst h; simp at hA; omega
                         · exact h
  have hB0 : 0 < B := by rcases Nat.eq_zero_or_pos B with h | h; · subst h; simp at hB; omega
                         · exact h
  have hG0 : 0 < G := by rcases Nat.eq_zero_or_pos G with h | h; · subst h; simp at hG; omega
                         · exact h
  have c1 : n.natAbs.gcd A = 1 := cop_lin (a := aN) (b := bN) (B := B) (Nat.Coprime.coprime_dvd_right ⟨g, by rw [hA, Nat.mul_comm]⟩ ha) (by rw [Nat.gcd_comm]; exact hAB) hn
  have c2 : n.natAbs.gcd B = 1 := cop_lin (a := bN) (b := aN) (B := A) (Nat.Coprime.coprime_dvd_right ⟨g, by rw [hB, Nat.mul_comm]⟩ hb) hAB (by rw [hn]; omega)
  have c3 : G.gcd t.natAbs = 1 := by
    have := Nat.coprime_div_gcd_div_gcd hp
    have e1 : g / g.gcd n.natAbs = G := by
      conv => lhs; lhs; rw [hG]
      exact Nat.mul_div_cancel_left _ hp
    have e2 : n.natAbs / g.gcd n.natAbs = t.natAbs := by
      have : n.natAbs = g.gcd n.natAbs * t.natAbs := by
        conv => lhs; rw [ht]
        rw [Int.natAbs_mul, Int.natAbs_natCast]
      conv => lhs; lhs; rw [this]
      exact Nat.mul_div_cancel_left _ hp
    rw [e1, e2] at this; exact this
  have ht2 : t.natAbs ∣ n.natAbs := by
    refine ⟨g.gcd n.natAbs, ?_⟩
    conv => lhs; rw [ht]
    rw [Int.natAbs_mul, Int.natAbs_natCast, Nat.mul_comm]
  have eD : bD / g.gcd n.natAbs = G * B := by
    have : bD = g.gcd n.natAbs * (G * B) := by rw [← Nat.mul_assoc, ← hG]; exact hB
    conv => lhs; lhs; rw [this]
    exact Nat.mul_div_cancel_left _ hp
  refine ⟨t, ht, ?_, ?_, ?_⟩
  · rw [eD, q_div, q_div, q_div, hA, hB]
    generalize g.gcd n.natAbs = p at *
    have nA := cast_ne (d := A) (by omega)
    have nB := cast_ne (d := B) (by omega)
    have nG := cast_ne (d := G) (by omega)
    have np := cast_ne (d := p) (by omega)
    have e : (aN : Rat) * (B : Rat) + (bN : Rat) * (A : Rat) = (p : Rat) * (t : Rat) := by
      have : ((aN * (B : Int) + bN * (A : Int) : Int) : Rat) = (((p : Int) * t : Int) : Rat) := by rw [← hn, ← ht]
      simp only [Rat.intCast_add, Rat.intCast_mul, Rat.intCast_natCast] at this
      exact this
    subst hG
    simp only [Rat.natCast_mul]
    exact fsum nA nB nG np e
  · rw [eD]
    apply Nat.Coprime.mul_right
    · exact cop_dvd c1 ht2 (Nat.dvd_refl _)
    · apply Nat.Coprime.mul_right
      · rw [Nat.gcd_comm] at c3; exact c3
      · exact cop_dvd c2 ht2 (Nat.dvd_refl _)
  · rw [eD]
    exact Nat.ne_of_gt (Nat.mul_pos hA0 (Nat.mul_pos hG0 hB0))
end BallQ
namespace BallQ
structure Digit (u c y y1 y0 B qh rh : Nat) : Prop where
  up : qh * y1 + rh = u
  ge : (u * B + c) / y ≤ qh
theorem digit_start {u c y y1 y0 B : Nat} (hy : y = y1 * B + y0) (_h1 : 0 < y1) (hc : c < B) : Digit u c y y1 y0 B (u / y1) (u % y1) := by
  refine ⟨by rw [Nat.mul_comm]; exact Nat.div_add_mod u y1, ?_⟩
  rw [Nat.le_div_iff_mul_le _h1]
  generalize hQ : (u * B + c) / y = Q
  have h := Nat.div_mul_le_self (u * B + c) y
  rw [hQ, hy, Nat.mul_add] at h
  have h2 : (Q * y1) * B ≤ u * B + c := by rw [← Nat.mul_assoc] at h; omega
  have hB : 0 < B := by omega
  rcases Nat.lt_or_ge u (Q * y1) with h3 | h3
  · have : (u + 1) * B ≤ (Q * y1) * B := Nat.mul_le_mul_right _ h3
    rw [Nat.add_mul] at this
    omega
  · exact h3
theorem digit_more {u c y y1 y0 B qh rh : Nat} (d : Digit u c y y1 y0 B qh rh) (hy : y = y1 * B + y0) (hyp : 0 < y) (hu : u < y) (hc : c < B) (h : B ≤ qh ∨ B * rh + c < qh * y0) : (u * B + c) / y < qh := by
  rcases h with h | h
  · have : (u * B + c) / y < B := by
      rw [Nat.div_lt_iff_lt_mul hyp]
      have : (u + 1) * B ≤ y * B := Nat.mul_le_mul_right _ hu
      rw [Nat.add_mul] at this
      have e : B * y = y * B := Nat.mul_comm _ _
      omega
    omega
  · rw [Nat.div_lt_iff_lt_mul hyp]
    have e1 : qh * y = (qh * y1) * B + qh * y0 := by rw [hy, Nat.mul_add, Nat.mul_assoc]
    have e2 : u * B = (qh * y1) * B + rh * B := by rw [← d.up, Nat.add_mul]
    have e3 : B * rh = rh * B := Nat.mul_comm _ _
    omega
theorem digit_step {u c y y1 y0 B qh rh : Nat} (d : Digit u c y y1 y0 B qh rh) (h : (u * B + c) / y < qh) : Digit u c y y1 y0 B (qh - 1) (rh + y1) := by
  refine ⟨?_, Nat.le_sub_one_of_lt h⟩
  have := d.up
  have hq : 0 < qh := Nat.lt_of_le_of_lt (Nat.zero_le _) h
  clear h d
  obtain ⟨k, rfl⟩ : ∃ k, qh = k + 1 := ⟨qh - 1, by omega⟩
  rw [Nat.add_mul] at this
  simp; omega
theorem digit_end {u c y y1 y0 B qh rh : Nat} (d : Digit u c y y1 y0 B qh rh) (hy : y = y1 * B + y0) (hyp : 0 < y) (h : qh * y0 ≤ B * rh + c) : qh = (u * B + c) / y := by
  apply Nat.le_antisymm _ d.ge
  rw [Nat.le_div_iff_mul_le hyp]
  have e1 : qh * y = (qh * y1) * B + qh * y0 := by rw [hy, Nat.mul_add, Nat.mul_assoc]
  have e2 : u * B = (qh * y1) * B + rh * B := by rw [← d.up, Nat.add_mul]
  have e3 : B * rh = rh * B := Nat.mul_comm _ _
  omega
theorem digit_far {u c y y1 y0 B qh rh : Nat} (d : Digit u c y y1 y0 B qh rh) (hy : y = y1 * B + y0) (hyp : 0 < y) (h0 : y0 < B) (hq : qh ≤ B) (hr : B ≤ rh) : qh = (u * B + c) / y := by
  apply digit_end d hy hyp
  have h1 : qh * y0 ≤ B * B := Nat.mul_le_mul hq (by omega)
  have h2 : B * B ≤ B * rh := Nat.mul_le_mul_left _ hr
  omega
theorem digit_bound {u y y1 y0 B : Nat} (hy : y = y1 * B + y0) (hu : u < y) (h0 : y0 < B) (h1 : B ≤ 2 * y1) (hp : 0 < y1) : u / y1 ≤ B + 1 := by
  have : u < (B + 2) * y1 := by
    have e : (B + 2) * y1 = y1 * B + 2 * y1 := by rw [Nat.add_mul, Nat.mul_comm]
    omega
  have := (Nat.div_lt_iff_lt_mul hp).2 this
  omega
theorem two_digits {U y B u c1 c0 : Nat} (hyp : 0 < y) (hU : U = u * (B * B) + (c1 * B + c0)) :
    U / y = (u * B + c1) / y * B + (((u * B + c1) % y) * B + c0) / y ∧ U % y = (((u * B + c1) % y) * B + c0) % y := by
  have h1 := Nat.div_add_mod (u * B + c1) y
  generalize (u * B + c1) / y = q1 at *
  generalize (u * B + c1) % y = r1 at *
  have e : U = y * (q1 * B) + (r1 * B + c0) := by
    have : U = (u * B + c1) * B + c0 := by rw [hU]; grind
    rw [this, ← h1]; grind
  rw [e]
  constructor
  · rw [Nat.mul_add_div hyp]
  · rw [Nat.mul_add_mod]
end BallQ
namespace Go.E
open Go Go.Eng
open BallQ (In64 Right q out fits put)
instance in64Dec (a : Int) : Decidable (BallQ.In64 a) := inferInstanceAs (Decidable (_ ∧ _))
theorem wu64 (n : Int) : IntKind.u64.wrap n = n % 18446744073709551616 := by
  simp [IntKind.wrap, IntKind.signed, IntKind.bits]
theorem wi64 (n : Int) : IntKind.i64.wrap n = (n + 9223372036854775808) % 18446744073709551616 - 9223372036854775808 := by
  simp [IntKind.wrap, IntKind.signed, IntKind.bits]
  omega
theorem andI_eq (k : IntKind) (a b : Int) : andI k a b = bits .and k a b := rfl
theorem orI_eq (k : IntKind) (a b : Int) : orI k a b = bits .or k a b := rfl
theorem wraps_u64 (n : Int) (h₀ : 0 ≤ n) (h₁ : n < 2 ^ 64) : IntKind.u64.wrap n = n := by rw [wu64]; omega
theorem and32 (x : Nat) (h : x < 18446744073709551616) : andI .u64 (x : Int) 4294967295 = ((x % 4294967296 : Nat) : Int) := by
  rw [andI_eq]
  have := bits_mask .u64 64 (by decide) wraps_u64 32 (by decide) (x : Int) (by omega) (by omega)
  have e : ((2 : Int) ^ 32 - 1) = 4294967295 := by decide
  rw [e] at this
  rw [this]; omega
theorem mul_split (x1 x0 y1 y0 B : Nat) (hB : 0 < B) : (x1 * B + x0) * (y1 * B + y0) / (B * B) = x1 * y1 + (x1 * y0 + x0 * y0 / B) / B + ((x1 * y0 + x0 * y0 / B) % B + x0 * y1) / B := by
  have h1 := Nat.div_add_mod (x0 * y0) B
  have h2 := Nat.div_add_mod (x1 * y0 + x0 * y0 / B) B
  generalize hw : x0 * y0 / B = w at *
  generalize hr : x0 * y0 % B = r at *
  generalize hu : (x1 * y0 + w) / B = u at *
  generalize hv : (x1 * y0 + w) % B = v at *
  have hrB : r < B := by rw [← hr]; exact Nat.mod_lt _ hB
  have h3 := Nat.div_add_mod (v + x0 * y1) B
  generalize hs : (v + x0 * y1) / B = s at *
  have htB : (v + x0 * y1) % B < B := Nat.mod_lt _ hB
  generalize (v + x0 * y1) % B = t at *
  have e : (x1 * B + x0) * (y1 * B + y0) = (x1 * y1 + u + s) * (B * B) + (t * B + r) := by
    have a1 : (x1 * B + x0) * (y1 * B + y0) = x1 * y1 * (B * B) + (x1 * y0) * B + (x0 * y1) * B + x0 * y0 := by grind
    have a2 : (x1 * y0 + w) * B = (B * u + v) * B := by rw [h2]
    have a3 : (v + x0 * y1) * B = (B * s + t) * B := by rw [h3]
    rw [a1, ← h1]
    have b1 : (x1 * y0) * B + w * B = B * u * B + v * B := by rw [← Nat.add_mul, ← Nat.add_mul]; exact a2
    have b2 : v * B + x0 * y1 * B = B * s * B + t * B := by rw [← Nat.add_mul, ← Nat.add_mul]; exact a3
    have c1 : (x1 * y1 + u + s) * (B * B) = x1 * y1 * (B * B) + B * u * B + B * s * B := by grind
    have c2 : B * w = w * B := Nat.mul_comm _ _
    rw [c1, c2]
    omega
  rw [e]
  have hlt : t * B + r < B * B := by
    have : (t + 1) * B ≤ B * B := Nat.mul_le_mul_right _ htB
    rw [Nat.add_mul] at this; omega
  rw [Nat.mul_comm, Nat.mul_add_div (Nat.mul_pos hB hB), Nat.div_eq_of_lt hlt, Nat.add_zero]
theorem mul_lt {a b A B : Nat} (ha : a < A) (hb : b < B) : a * b ≤ (A - 1) * (B - 1) := Nat.mul_le_mul (by omega) (by omega)
theorem signed_mul (a b : Int) : a * b = if (decide (a < 0) != decide (b < 0)) = true then -((a.natAbs * b.natAbs : Nat) : Int) else ((a.natAbs * b.natAbs : Nat) : Int) := by
  rcases Int.natAbs_eq a with ea | ea <;> rcases Int.natAbs_eq b with eb | eb
  all_goals
    generalize a.natAbs = m at *
    generalize b.natAbs = n at *
    subst ea eb
    simp only [Int.natCast_mul]
  · have h1 : ¬ ((m : Int) < 0) := by omega
    have h2 : ¬ ((n : Int) < 0) := by omega
    simp [h1, h2]
  · have h1 : ¬ ((m : Int) < 0) := by omega
    by_cases h2 : -(n : Int) < 0
    · simp [h1]; rw [if_pos (by omega), Int.mul_neg]
    · have : n = 0 := by omega
      subst this; simp
  · have h1 : ¬ ((n : Int) < 0) := by omega
    by_cases h2 : -(m : Int) < 0
    · simp [h1]; rw [if_pos (by omega), Int.neg_mul]
    · have : m = 0 := by omega
      subst this; simp
  · by_cases h1 : -(m : Int) < 0 <;> by_cases h2 : -(n : Int) < 0
    · simp; rw [if_pos (by constructor <;> intro <;> omega), Int.neg_mul_neg]
    · have : n = 0 := by omega
      subst this; simp
    · have : m = 0 := by omega
      subst this; simp
    · have : m = 0 := by omega
      subst this; simp
theorem natAbs_le {a : Int} (h : In64 a) : a.natAbs ≤ 9223372036854775808 := by have := h.1; have := h.2; omega
structure Norm (y y1 y0 : Nat) : Prop where
  e : y = y1 * 4294967296 + y0
  lo : 9223372036854775808 ≤ y
  hi : y < 18446744073709551616
  d0 : y0 < 4294967296
theorem Norm.half {y y1 y0 : Nat} (n : Norm y y1 y0) : 2147483648 ≤ y1 ∧ y1 < 4294967296 := by
  have := n.e; have := n.lo; have := n.hi; have := n.d0; omega
theorem test_eq {q y0 rh c : Nat} (hq : q < 4294967296) (hy0 : y0 < 4294967296) (hr : rh < 4294967296) (hc : c < 4294967296) :
    decide ((IntKind.u64.wrap ((q : Int) * (y0 : Int))) > (IntKind.u64.wrap ((IntKind.u64.wrap (4294967296 * (rh : Int))) + (c : Int)))) = decide (4294967296 * rh + c < q * y0) := by
  have m := mul_lt hq hy0
  have e1 : IntKind.u64.wrap ((q : Int) * (y0 : Int)) = ((q * y0 : Nat) : Int) := by rw [wu64, ← Int.natCast_mul]; omega
  have e2 : IntKind.u64.wrap (4294967296 * (rh : Int)) = ((4294967296 * rh : Nat) : Int) := by rw [wu64]; omega
  have e3 : IntKind.u64.wrap (((4294967296 * rh : Nat) : Int) + (c : Int)) = ((4294967296 * rh + c : Nat) : Int) := by rw [wu64]; omega
  rw [e1, e2, e3, decide_eq_decide]
  omega
theorem rest_eq {u c y Q : Nat} (hQ : Q = (u * 4294967296 + c) / y) (hy : 0 < y) (hy1 : y < 18446744073709551616) :
    IntKind.u64.wrap ((IntKind.u64.wrap ((IntKind.u64.wrap ((u : Int) * 4294967296)) + (c : Int))) - (IntKind.u64.wrap ((Q : Int) * (y : Int)))) = (((u * 4294967296 + c) % y : Nat) : Int) := by
  have h := Nat.div_add_mod (u * 4294967296 + c) y
  have hlt := Nat.mod_lt (u * 4294967296 + c) hy
  rw [← hQ, Nat.mul_comm] at h
  rw [wu64, wu64, wu64, wu64, ← Int.natCast_mul Q y]
  generalize Q * y = p at *
  generalize (u * 4294967296 + c) % y = R at *
  clear hQ
  omega
theorem sub_mul_eq {R y1 : Nat} (hR : R < 18446744073709551616) :
    IntKind.u64.wrap (Int.tdiv (R : Int) (y1 : Int)) = ((R / y1 : Nat) : Int) ∧ IntKind.u64.wrap ((R : Int) - (IntKind.u64.wrap (((R / y1 : Nat) : Int) * (y1 : Int)))) = ((R % y1 : Nat) : Int) := by
  have h := Nat.div_add_mod R y1
  have hd : R / y1 ≤ R := Nat.div_le_self R y1
  constructor
  · rw [Int.tdiv_eq_ediv_of_nonneg (by omega), ← Int.natCast_ediv, wu64]
    generalize R / y1 = v at *
    omega
  · rw [wu64, wu64, ← Int.natCast_mul, Nat.mul_comm (R / y1) y1]
    generalize y1 * (R / y1) = p at *
    generalize R % y1 = m at *
    omega
theorem shr_eq (x s : Nat) (hs : s ≤ 64) : shrI .u64 (x : Int) (s : Int) = ((x / 2 ^ s : Nat) : Int) := by
  unfold shrI
  have : min (s : Int).toNat (IntKind.u64.bits) = s := by simp [IntKind.bits]; omega
  rw [this, Int.fdiv_eq_ediv_of_nonneg _ (by exact_mod_cast Nat.zero_le _)]; simp
theorem shl_eq (x s : Nat) (hs : s ≤ 64) : shlI .u64 (x : Int) (s : Int) = ((x * 2 ^ s % 18446744073709551616 : Nat) : Int) := by
  unfold shlI
  have : min (s : Int).toNat (IntKind.u64.bits) = s := by simp [IntKind.bits]; omega
  rw [this, wu64]; simp
theorem or_eq {x y s : Nat} (hx : x * 2 ^ s < 18446744073709551616) (hy : y < 2 ^ s) (hs : s ≤ 64) : orI .u64 ((x * 2 ^ s : Nat) : Int) (y : Int) = ((x * 2 ^ s + y : Nat) : Int) := by
  have hp : 2 ^ s ≤ 18446744073709551616 := Nat.pow_le_pow_right (n := 2) (by decide) hs
  have e : ((2 : Int) ^ s) = ((2 ^ s : Nat) : Int) := by simp
  have h1 : ((x * 2 ^ s : Nat) : Int) % 2 ^ s = 0 := by rw [e, ← Int.natCast_emod, Nat.mul_mod_left]; rfl
  have h2 : (y : Int) < 2 ^ s := by rw [e]; exact Int.ofNat_lt.2 hy
  have h3 : ((x * 2 ^ s : Nat) : Int) < 2 ^ 64 := Int.ofNat_lt.2 hx
  have h4 : (y : Int) < 2 ^ 64 := Int.ofNat_lt.2 (Nat.lt_of_lt_of_le hy hp)
  rw [orI_eq]
  have := bits_join .u64 64 (by decide) wraps_u64 s ((x * 2 ^ s : Nat) : Int) (y : Int) (Int.natCast_nonneg _) h1 h3 (Int.natCast_nonneg _) h2 h4
  rw [this]; simp
theorem shift_parts {hi lo y p r : Nat} (hpp : r * p = 18446744073709551616) (h : hi < y) (hl : lo < 18446744073709551616) (sN : y * p < 18446744073709551616) :
    hi * p < 18446744073709551616 ∧ lo / r < p ∧ hi * p + lo / r < y * p ∧ (hi * 18446744073709551616 + lo) * p = (hi * p + lo / r) * 18446744073709551616 + lo * p % 18446744073709551616 := by
  have p0 : 0 < p := by rcases Nat.eq_zero_or_pos p with e | e; · subst e; simp at hpp
                        · exact e
  have r0 : 0 < r := by rcases Nat.eq_zero_or_pos r with e | e; · subst e; simp at hpp
                        · exact e
  have h1 : (hi + 1) * p ≤ y * p := Nat.mul_le_mul_right _ h
  rw [Nat.add_mul, Nat.one_mul] at h1
  have h2 : lo / r < p := by rw [Nat.div_lt_iff_lt_mul r0, Nat.mul_comm, hpp]; exact hl
  have a1 := Nat.div_add_mod (lo * p) 18446744073709551616
  have a2 : lo * p / 18446744073709551616 = lo / r := by rw [← hpp, Nat.mul_div_mul_right _ _ p0]
  rw [a2] at a1
  have a3 : (hi * 18446744073709551616 + lo) * p = hi * p * 18446744073709551616 + lo * p := by grind
  rw [a3]
  generalize hi * p = A at *
  generalize y * p = Y at *
  generalize lo * p = L at *
  generalize lo / r = D at *
  clear hpp a2 a3
  omega
theorem right_nat {n d : Int} (h : Right n d) (hd : In64 d) : ∃ D : Nat, d = (D : Int) ∧ 0 < D ∧ D < 9223372036854775808 ∧ n.natAbs.gcd D = 1 := by
  obtain ⟨h0, _, h2⟩ := h
  have := hd.2
  refine ⟨d.natAbs, by omega, by omega, by omega, h2⟩
theorem out_zero : out 0 = (0, 1, 0) := by decide +kernel
theorem or_zero {a b : Nat} (ha : a < 18446744073709551616) (hb : b < 18446744073709551616) : orI .u64 (a : Int) (b : Int) = 0 ↔ a = 0 ∧ b = 0 := by
  rw [orI_eq]
  have := (bits_nat .u64 64 (by decide) wraps_u64 a b (by omega) (by omega)).2
  rw [this]
  have e : ((a ||| b : Nat) : Int) = 0 ↔ (a ||| b) = 0 := by omega
  rw [e, Nat.or_eq_zero_iff]
def addS (aN aD bN bD : Int) : Int × Int × Int := if Right aN aD ∧ Right bN bD then out (q aN aD + q bN bD) else (0, 0, 2)
theorem add_fin {v t : Int} {p D : Nat} (hp0 : 0 < p) (ht : v = (p : Int) * t) (m : Bool) :
    (¬ v.natAbs / 18446744073709551616 < p → put t.natAbs D m = (0, 0, 3)) ∧ (v.natAbs / 18446744073709551616 < p → t.natAbs < 18446744073709551616) ∧ v.natAbs / p = t.natAbs := by
  have e : v.natAbs = p * t.natAbs := by rw [ht, Int.natAbs_mul, Int.natAbs_natCast]
  have e2 : v.natAbs / p = t.natAbs := by rw [e]; exact Nat.mul_div_cancel_left _ hp0
  refine ⟨?_, ?_, e2⟩
  · intro h
    have h1 : p * 18446744073709551616 ≤ v.natAbs := by
      have := Nat.div_mul_le_self v.natAbs 18446744073709551616
      have h3 := Nat.mul_le_mul_right 18446744073709551616 (Nat.not_lt.1 h)
      exact Nat.le_trans h3 this
    have h2 : 18446744073709551616 ≤ t.natAbs := by
      rw [← e2, Nat.le_div_iff_mul_le hp0, Nat.mul_comm]; exact h1
    unfold BallQ.put
    rw [if_neg]
    intro h3
    have := h3.1
    clear h3 h1 e e2 ht h
    omega
  · intro h
    rw [← e2, Nat.div_lt_iff_lt_mul hp0]
    have h1 := (Nat.div_lt_iff_lt_mul (show 0 < 18446744073709551616 by decide)).1 h
    rw [Nat.mul_comm]; exact h1
theorem in64_nat {n : Nat} (h : n < 9223372036854775808) : In64 (n : Int) := ⟨by omega, by omega⟩
theorem lt64 {n : Nat} (h : n < 9223372036854775808) : n < 18446744073709551616 := by omega
theorem pos_ne {n : Nat} (h : 0 < n) : ¬ ((n : Nat) : Int) = 0 := by omega
theorem sign_of {v t : Int} {p : Nat} (hp0 : 0 < p) (ht : v = (p : Int) * t) : decide (v < 0) = decide (t < 0) := by
  rw [decide_eq_decide, ht]
  have hp : (0 : Int) < (p : Int) := by omega
  constructor
  · intro h
    by_cases h' : t < 0
    · exact h'
    · have := Int.mul_nonneg (Int.le_of_lt hp) (Int.not_lt.1 h')
      exact absurd h (Int.not_lt.2 this)
  · intro h; exact Int.mul_neg_of_pos_of_neg hp h
theorem nat_split (n : Nat) (h : n < 340282366920938463463374607431768211456) : n / 18446744073709551616 * 18446744073709551616 + n % 18446744073709551616 = n ∧ n / 18446744073709551616 < 18446744073709551616 ∧ n % 18446744073709551616 < 18446744073709551616 := by omega
theorem sum_bound {x y : Int} (hx : x.natAbs ≤ 9223372036854775808 * 9223372036854775808) (hy : y.natAbs ≤ 9223372036854775808 * 9223372036854775808) : (x + y).natAbs < 340282366920938463463374607431768211456 := by omega
theorem prod_bound {x : Int} {n : Nat} (hx : In64 x) (hn : n < 9223372036854775808) : (x * (n : Int)).natAbs ≤ 9223372036854775808 * 9223372036854775808 := by
  rw [Int.natAbs_mul]; exact Nat.mul_le_mul (natAbs_le hx) (by rw [Int.natAbs_natCast]; omega)
theorem div_exact {a : Int} {x : Nat} (h : x ∣ a.natAbs) (hx : 0 < x) : ∃ t : Int, a = (x : Int) * t ∧ a.natAbs / x = t.natAbs := by
  have hd : (x : Int) ∣ a := Int.dvd_natAbs.1 (Int.natCast_dvd_natCast.2 h)
  obtain ⟨t, ht⟩ := hd
  refine ⟨t, ht, ?_⟩
  have e : a.natAbs = x * t.natAbs := by rw [ht, Int.natAbs_mul, Int.natAbs_natCast]
  rw [e]; exact Nat.mul_div_cancel_left _ hx
theorem mul_parts {aN bN : Int} {A B : Nat} (ha : aN.natAbs.gcd A = 1) (hb : bN.natAbs.gcd B = 1) (hA : 0 < A) (hB : 0 < B) (m : Bool) (hm : aN ≠ 0 → bN ≠ 0 → m = (decide (aN < 0) != decide (bN < 0))) :
    out (mkRat aN A * mkRat bN B) = put (aN.natAbs / aN.natAbs.gcd B * (bN.natAbs / bN.natAbs.gcd A)) (A / bN.natAbs.gcd A * (B / aN.natAbs.gcd B)) m := by
  have g1 : 0 < aN.natAbs.gcd B := Nat.gcd_pos_of_pos_right _ hB
  have g2 : 0 < bN.natAbs.gcd A := Nat.gcd_pos_of_pos_right _ hA
  have hc := BallQ.mul_cop ha hb hA hB
  obtain ⟨a', ha', ea⟩ := div_exact (Nat.gcd_dvd_left aN.natAbs B) g1
  obtain ⟨b', hb', eb⟩ := div_exact (Nat.gcd_dvd_left bN.natAbs A) g2
  obtain ⟨A', hA'⟩ := Nat.gcd_dvd_right bN.natAbs A
  obtain ⟨B', hB'⟩ := Nat.gcd_dvd_right aN.natAbs B
  have eA : A / bN.natAbs.gcd A = A' := by
    conv => lhs; lhs; rw [hA']
    exact Nat.mul_div_cancel_left _ g2
  have eB : B / aN.natAbs.gcd B = B' := by
    conv => lhs; lhs; rw [hB']
    exact Nat.mul_div_cancel_left _ g1
  rw [ea, eb, eA, eB] at hc
  rw [ea, eb, eA, eB]
  have hv : mkRat aN A * mkRat bN B = mkRat (a' * b') (A' * B') := by
    rw [Rat.mkRat_mul_mkRat]
    have e1 : aN * bN = ((aN.natAbs.gcd B * bN.natAbs.gcd A : Nat) : Int) * (a' * b') := by
      conv => lhs; rw [ha', hb']
      rw [Int.natCast_mul]; grind
    have e2 : A * B = aN.natAbs.gcd B * bN.natAbs.gcd A * (A' * B') := by
      conv => lhs; rw [hA', hB']
      grind
    rw [e1, e2]
    exact Rat.mkRat_mul_left (Nat.ne_of_gt (Nat.mul_pos g1 g2))
  rw [hv]
  have hA0 : A' ≠ 0 := by intro h; rw [h] at hA'; simp at hA'; omega
  have hB0 : B' ≠ 0 := by intro h; rw [h] at hB'; simp at hB'; omega
  have hn : (a' * b').natAbs = a'.natAbs * b'.natAbs := Int.natAbs_mul _ _
  rw [← hn] at hc ⊢
  refine BallQ.out_cop _ _ (Nat.mul_ne_zero hA0 hB0) hc m (fun h => ?_)
  have ha0 : a' ≠ 0 := by intro e; apply h; rw [e]; simp
  have hb0 : b' ≠ 0 := by intro e; apply h; rw [e]; simp
  have hma : decide (aN < 0) = decide (a' < 0) := sign_of g1 ha'
  have hmb : decide (bN < 0) = decide (b' < 0) := sign_of g2 hb'
  have na : aN ≠ 0 := by rw [ha']; intro e; rcases Int.mul_eq_zero.1 e with e | e; · omega
                         · exact ha0 e
  have nb : bN ≠ 0 := by rw [hb']; intro e; rcases Int.mul_eq_zero.1 e with e | e; · omega
                         · exact hb0 e
  rw [hm na nb, hma, hmb]
  by_cases p1 : a' < 0 <;> by_cases p2 : b' < 0
  · have : ¬ a' * b' < 0 := by have := Int.mul_pos_of_neg_of_neg p1 p2; omega
    simp [p1, p2, this]
  · have : a' * b' < 0 := Int.mul_neg_of_neg_of_pos p1 (by omega)
    simp [p1, p2, this]
  · have : a' * b' < 0 := Int.mul_neg_of_pos_of_neg (by omega) p2
    simp [p1, p2, this]
  · have : ¬ a' * b' < 0 := by have := Int.mul_nonneg (Int.not_lt.1 p1) (Int.not_lt.1 p2); omega
    simp [p1, p2, this]
def mulS (aN aD bN bD : Int) : Int × Int × Int := if Right aN aD ∧ Right bN bD then out (q aN aD * q bN bD) else (0, 0, 2)
theorem big_put {n d : Nat} {m : Bool} (h : ¬ n < 18446744073709551616 ∨ ¬ d < 18446744073709551616) : put n d m = (0, 0, 3) := by
  unfold BallQ.put
  rw [if_neg]
  intro h2
  rcases h with h | h
  · exact h (lt64 h2.1)
  · exact h (lt64 h2.2)
theorem out_ok {x : Rat} (h : fits x) : out x = (x.num, (x.den : Int), 0) := by unfold BallQ.out; rw [if_pos h]
theorem out_over {x : Rat} (h : ¬ fits x) : out x = (0, 0, 3) := by unfold BallQ.out; rw [if_neg h]
theorem right_neg {n d : Int} (h : Right n d) (hn : In64 n) : Right (-n) d ∧ In64 (-n) ∧ q (-n) d = -q n d := by
  obtain ⟨h0, h1, h2⟩ := h
  obtain ⟨n0, n1⟩ := hn
  refine ⟨⟨h0, by omega, by rw [Int.natAbs_neg]; exact h2⟩, ⟨by omega, by omega⟩, ?_⟩
  unfold BallQ.q
  rw [Rat.neg_mkRat]
end Go.E
end
section
set_option linter.all false
set_option maxRecDepth 100000
namespace Go.E.Ref
open Go Go.Proofs Go.Eng BallBits
variable {TB : Nat → Option Obj}
def eB (b : Bool) : List PV := [.bool b]
abbrev bG (l : List Bool) : GV := .p (.sl (l.map eB))
theorem sz_bits (l : List Bool) : sizes (l.map eB) 1 := sizes_map (f := eB) (fun _ => rfl) l
theorem sz_bit (b : Bool) : sizes [[PV.bool b]] 1 := by exact sizes_cons (by rfl) sizes_nil
attribute [simp] sz_bits sz_bit
def bitAt (l : List Bool) (i : Nat) : Bool := l.getD i false
theorem bit_at (l : List Bool) (i : Nat) (h : i < l.length) : (l.map eB)[i]? = some [.bool (bitAt l i)] := by
  rw [List.getElem?_map, List.getElem?_eq_getElem h]
  unfold bitAt
  rw [List.getD_eq_getElem?_getD, List.getElem?_eq_getElem h]; rfl
theorem bitAt_far {l : List Bool} {i : Nat} (h : l.length ≤ i) : bitAt l i = false := by
  simp [bitAt, List.getD_eq_getElem?_getD, List.getElem?_eq_none h]
theorem bit_get (l : List Bool) (i : Nat) (h : i < l.length) : l[i] = bitAt l i := by
  unfold bitAt
  rw [List.getD_eq_getElem?_getD, List.getElem?_eq_getElem h]; rfl
theorem bit_ev (l : List Bool) (i : Nat) (d : Nat) (G : Heap) : Tel Try.prog TB d 78 [bG l, .p (.int .i64 (i : Int))] G (.p (.bool (bitAt l i))) G := by
  refine Tel.intro mix Try.func78 rfl (Nat.le_of_ble_eq_true rfl) {} (by kernel_rfl) (by kernel_rfl) ?_
  by_cases h : i < l.length
  · simp -implicitDefEqProofs [-Int.natCast_ediv, -Int.natCast_emod, -Int.natCast_mul, -Int.natCast_add, Try.results78, h, bit_get l i h, eB]
  · simp -implicitDefEqProofs [-Int.natCast_ediv, -Int.natCast_emod, -Int.natCast_mul, -Int.natCast_add, Try.results78, h, bitAt_far (Nat.not_lt.1 h)]
theorem trim_ev (l : List Bool) (hl : l.length ≤ 1000000) (d : Nat) (G : Heap) : Tel Try.prog TB d 75 [bG l] G (bG (bof (nv l))) G := by
  refine Tel.intro mix Try.func75 rfl (Nat.le_of_ble_eq_true rfl) {} (by kernel_rfl) (by kernel_rfl) ?_
  simp -implicitDefEqProofs [-Int.natCast_ediv, -Int.natCast_emod, -Int.natCast_mul, -Int.natCast_add, Try.results75]
  refine gwp_loop (fun k s => s.F 0 = bG l ∧ s.F 3 = .p (.int .i64 (k : Int)) ∧ s.G = cut d G ∧ k ≤ l.length ∧ nv (l.take k) = nv l) (m := l.length) ⟨by simp -implicitDefEqProofs [-Int.natCast_ediv, -Int.natCast_emod, -Int.natCast_mul, -Int.natCast_add, ], by simp -implicitDefEqProofs [-Int.natCast_ediv, -Int.natCast_emod, -Int.natCast_mul, -Int.natCast_add, ], by simp -implicitDefEqProofs [-Int.natCast_ediv, -Int.natCast_emod, -Int.natCast_mul, -Int.natCast_add, ], Nat.le_refl _, by simp⟩ ?_
  rintro k s ⟨h0, h3, hG, hk, hn⟩
  cases k with
  | zero =>
    have : nv l = 0 := by simpa [nv] using hn.symm
    simp -implicitDefEqProofs [-Int.natCast_ediv, -Int.natCast_emod, -Int.natCast_mul, -Int.natCast_add, h0, h3, hG, this, bof_zero]
  | succ k =>
    have hw : IntKind.i64.wrap (((k + 1 : Nat) : Int) - 1) = (k : Int) := by rw [wi64]; omega
    have hp : (0 : Int) < ((k + 1 : Nat) : Int) := by omega
    by_cases hb : bitAt l k = true
    · have ht := take_one_bof l k hk hb
      rw [hn] at ht
      simp -implicitDefEqProofs [-Int.natCast_ediv, -Int.natCast_emod, -Int.natCast_mul, -Int.natCast_add, h0, h3, hG, hw, hp, bit_at l k hk, hb, -List.getElem?_map, ht, List.map_take, hk]
    · have hb' : bitAt l k = false := by simpa using hb
      simp -implicitDefEqProofs [-Int.natCast_ediv, -Int.natCast_emod, -Int.natCast_mul, -Int.natCast_add, h0, h3, hG, hw, hp, bit_at l k hk, hb', -List.getElem?_map]
      refine ⟨k, Nat.lt_succ_self k, rfl, by omega, ?_⟩
      rw [← hn, nv_take_succ l k hk]
      unfold bitAt at hb'
      rw [hb']; simp
theorem add_arith {p c u v x y q s o t : Nat} (h : c + u + v = q + 2 * s) (h4 : o + p * (c + (u + 2 * x) + (v + 2 * y)) = t) : o + p * q + p * 2 * (s + x + y) = t := by
  rw [← h4]
  have : c + (u + 2 * x) + (v + 2 * y) = q + 2 * (s + x + y) := by omega
  rw [this, Nat.mul_add p q, Nat.mul_assoc, Nat.add_assoc]
theorem half_of (n : Nat) (hn : n ≤ 3) : decide ((n : Int).tmod 2 = 1) = (n % 2 == 1) ∧ IntKind.i64.wrap ((n : Int) / 2) = ((n / 2 : Nat) : Int) := by
  have : n = 0 ∨ n = 1 ∨ n = 2 ∨ n = 3 := by omega
  rw [wi64]
  rcases this with rfl | rfl | rfl | rfl <;> decide
theorem add_round {a b out : List Bool} {c n : Nat} (hn : n = c + (bitAt a out.length).toNat + (bitAt b out.length).toNat)
    (h4 : nv out + 2 ^ out.length * (c + nv (a.drop out.length) + nv (b.drop out.length)) = nv a + nv b) :
    nv (out ++ [n % 2 == 1]) + 2 ^ (out ++ [n % 2 == 1]).length * (n / 2 + nv (a.drop (out ++ [n % 2 == 1]).length) + nv (b.drop (out ++ [n % 2 == 1]).length)) = nv a + nv b := by
  have da := nv_drop' a out.length
  have db := nv_drop' b out.length
  rw [da, db] at h4
  have hnv : nv (out ++ [n % 2 == 1]) = nv out + 2 ^ out.length * (n % 2) := by
    rw [nv_append]; rcases Nat.mod_two_eq_zero_or_one n with e | e <;> simp [nv, e]
  rw [hnv]
  simp only [List.length_append, List.length_singleton, Nat.pow_succ]
  unfold bitAt at hn
  exact add_arith (by have := Nat.mod_add_div n 2; omega) h4
theorem add_next {d k n c : Nat} {a b out : List Bool} {G G' : Heap} (hn : n = c + (bitAt a out.length).toNat + (bitAt b out.length).toNat)
    (h4 : nv out + 2 ^ out.length * (c + nv (a.drop out.length) + nv (b.drop out.length)) = nv a + nv b) (hc : c ≤ 1) (hk : out.length + k = max a.length b.length + 1) (hk1 : 0 < k)
    (hg : get G' (d + 1, 39, 0) = some (.tok (out.map eB ++ [eB (n % 2 == 1)]).length 1)) (hA : agree d G' G) (g43 : G' (d + 1) 43 = []) (g26 : G' (d + 1) 26 = []) (g31 : G' (d + 1) 31 = []) :
    ∃ k', k' < k ∧ ∃ (x : List Bool) (x_1 : Nat), ((n / 2 : Nat) : Int) = (x_1 : Int) ∧ ((out.length + 1 : Nat) : Int) = (x.length : Int) ∧ Grow G' (d + 1) 39 1 (x.map eB) (.tsl (out.map eB ++ [eB (n % 2 == 1)]) (d + 1, 39, 0)) ∧ agree d G' G ∧
      G' (d + 1) 43 = [] ∧ G' (d + 1) 26 = [] ∧ G' (d + 1) 31 = [] ∧ x_1 ≤ 1 ∧ x.length + k' = max a.length b.length + 1 ∧ (k' = 0 → x_1 = 0) ∧
      nv x + 2 ^ x.length * (x_1 + nv (a.drop x.length) + nv (b.drop x.length)) = nv a + nv b := by
  have ba := Bool.toNat_le (bitAt a out.length)
  have bb := Bool.toNat_le (bitAt b out.length)
  refine ⟨k - 1, by omega, out ++ [n % 2 == 1], n / 2, rfl, by simp, .inr ⟨by simp, by simpa using hg⟩, hA, g43, g26, g31, by omega, by simp; omega, fun h => ?_, add_round hn h4⟩
  rw [bitAt_far (by omega : a.length ≤ out.length), bitAt_far (by omega : b.length ≤ out.length)] at hn
  simp at hn
  omega
theorem add_ev (a b : List Bool) (ha : a.length ≤ 100000) (hb : b.length ≤ 100000) (d : Nat) (G : Heap) : Tel Try.prog TB d 45 [bG a, bG b] G (bG (bof (nv a + nv b))) G := by
  refine Tel.intro mix Try.func45 rfl (Nat.le_of_ble_eq_true rfl) {} (by kernel_rfl) (by kernel_rfl) ?_
  simp -implicitDefEqProofs [-Int.natCast_ediv, -Int.natCast_emod, -Int.natCast_mul, -Int.natCast_add, Try.results45]
  refine gwp_loop (fun k s => ∃ (out : List Bool) (c : Nat), s.F 0 = bG a ∧ s.F 1 = bG b ∧ s.F 6 = .p (.int .i64 (c : Int)) ∧ s.F 7 = .p (.int .i64 (out.length : Int)) ∧ Grow s.G (d + 1) 39 1 (out.map eB) (s.F 5) ∧ agree d s.G G ∧ s.G (d + 1) 43 = [] ∧ s.G (d + 1) 26 = [] ∧ s.G (d + 1) 31 = [] ∧
      c ≤ 1 ∧ out.length + k = max a.length b.length + 1 ∧ (k = 0 → c = 0) ∧ nv out + 2 ^ out.length * (c + nv (a.drop out.length) + nv (b.drop out.length)) = nv a + nv b) (m := max a.length b.length + 1)
    ⟨[], 0, by simp -implicitDefEqProofs [-Int.natCast_ediv, -Int.natCast_emod, -Int.natCast_mul, -Int.natCast_add, ], by simp -implicitDefEqProofs [-Int.natCast_ediv, -Int.natCast_emod, -Int.natCast_mul, -Int.natCast_add, ], by simp -implicitDefEqProofs [-Int.natCast_ediv, -Int.natCast_emod, -Int.natCast_mul, -Int.natCast_add, ], by simp -implicitDefEqProofs [-Int.natCast_ediv, -Int.natCast_emod, -Int.natCast_mul, -Int.natCast_add, ], by simp -implicitDefEqProofs [-Int.natCast_ediv, -Int.natCast_emod, -Int.natCast_mul, -Int.natCast_add, ]; exact Grow.start (by simp), by simp -implicitDefEqProofs [-Int.natCast_ediv, -Int.natCast_emod, -Int.natCast_mul, -Int.natCast_add, ], by simp -implicitDefEqProofs [-Int.natCast_ediv, -Int.natCast_emod, -Int.natCast_mul, -Int.natCast_add, ], by simp -implicitDefEqProofs [-Int.natCast_ediv, -Int.natCast_emod, -Int.natCast_mul, -Int.natCast_add, ], by simp -implicitDefEqProofs [-Int.natCast_ediv, -Int.natCast_emod, -Int.natCast_mul, -Int.natCast_add, ], by omega, by simp, by simp, by simp [nv]⟩ ?_
  rintro k s ⟨out, c, h0, h1, h6, h7, h5, hA, g43, g26, g31, hc, hk, hk0, h4⟩
  by_cases hend : ¬ out.length < a.length ∧ ¬ out.length < b.length ∧ c = 0
  · obtain ⟨e1, e2, rfl⟩ := hend
    have hnv : nv out = nv a + nv b := by
      rw [← h4, List.drop_eq_nil_of_le (by omega), List.drop_eq_nil_of_le (by omega)]; simp [nv]
    simp -implicitDefEqProofs [-Int.natCast_ediv, -Int.natCast_emod, -Int.natCast_mul, -Int.natCast_add, h0, h1, h6, h7, e1, e2]
    refine callp (trim_ev out (by omega) _ _) ?_ (hw := by simp [h5.wk]) (hf := g43)
    simp -implicitDefEqProofs [-Int.natCast_ediv, -Int.natCast_emod, -Int.natCast_mul, -Int.natCast_add, Try.results45, hA, hnv]
  · have wl : IntKind.i64.wrap ((out.length : Int) + 1) = ((out.length + 1 : Nat) : Int) := by rw [wi64]; omega
    have ws0 : IntKind.i64.wrap ((c : Int) + 1) = ((c + 1 : Nat) : Int) := by rw [wi64]; omega
    have ws1 : IntKind.i64.wrap (((c + 1 : Nat) : Int) + 1) = ((c + 2 : Nat) : Int) := by rw [wi64]; omega
    have hk1 : 0 < k := by
      rcases Nat.eq_zero_or_pos k with h | h
      · exact absurd ⟨by omega, by omega, hk0 h⟩ hend
      · exact h
    by_cases e1 : out.length < a.length
    · cases hA' : bitAt a out.length <;> cases hB' : bitAt b out.length
      · have hn : c = c + (bitAt a out.length).toNat + (bitAt b out.length).toNat := by rw [hA', hB']; simp
        obtain ⟨k1, k2⟩ := half_of (c) (by omega)
        simp -implicitDefEqProofs [-Int.natCast_ediv, -Int.natCast_emod, -Int.natCast_mul, -Int.natCast_add, h0, h1, h6, h7, e1]
        refine callp (bit_ev a out.length _ _) ?_ (hf := g26)
        simp -implicitDefEqProofs [-Int.natCast_ediv, -Int.natCast_emod, -Int.natCast_mul, -Int.natCast_add, h0, h1, h6, h7, hA', ws0]
        refine callp (bit_ev b out.length _ _) ?_ (hf := g31)
        simp -implicitDefEqProofs [-Int.natCast_ediv, -Int.natCast_emod, -Int.natCast_mul, -Int.natCast_add, h0, h1, h6, h7, hB', ws0, ws1]
        refine append_grow (es := out.map eB) (xs := [eB ((c) % 2 == 1)]) h5 (by simp; exact ⟨rfl, rfl⟩) (by simp -implicitDefEqProofs [-Int.natCast_ediv, -Int.natCast_emod, -Int.natCast_mul, -Int.natCast_add, k1, eB, srcOf]) rfl (by simp) (by simp [eB]) (by simp; omega) (by simp) ?_
        intro G' hg hf ha
        simp -implicitDefEqProofs [-Int.natCast_ediv, -Int.natCast_emod, -Int.natCast_mul, -Int.natCast_add, h0, h1, h6, h7, k2, wl]
        exact add_next hn h4 hc hk hk1 hg (ha _ _ (by omega) hA) ((hf _ _ (by omega)).trans g43) ((hf _ _ (by omega)).trans g26) ((hf _ _ (by omega)).trans g31)
      · have hn : c + 1 = c + (bitAt a out.length).toNat + (bitAt b out.length).toNat := by rw [hA', hB']; simp
        obtain ⟨k1, k2⟩ := half_of (c + 1) (by omega)
        simp -implicitDefEqProofs [-Int.natCast_ediv, -Int.natCast_emod, -Int.natCast_mul, -Int.natCast_add, h0, h1, h6, h7, e1]
        refine callp (bit_ev a out.length _ _) ?_ (hf := g26)
        simp -implicitDefEqProofs [-Int.natCast_ediv, -Int.natCast_emod, -Int.natCast_mul, -Int.natCast_add, h0, h1, h6, h7, hA', ws0]
        refine callp (bit_ev b out.length _ _) ?_ (hf := g31)
        simp -implicitDefEqProofs [-Int.natCast_ediv, -Int.natCast_emod, -Int.natCast_mul, -Int.natCast_add, h0, h1, h6, h7, hB', ws0, ws1]
        refine append_grow (es := out.map eB) (xs := [eB ((c + 1) % 2 == 1)]) h5 (by simp; exact ⟨rfl, rfl⟩) (by simp -implicitDefEqProofs [-Int.natCast_ediv, -Int.natCast_emod, -Int.natCast_mul, -Int.natCast_add, k1, eB, srcOf]) rfl (by simp) (by simp [eB]) (by simp; omega) (by simp) ?_
        intro G' hg hf ha
        simp -implicitDefEqProofs [-Int.natCast_ediv, -Int.natCast_emod, -Int.natCast_mul, -Int.natCast_add, h0, h1, h6, h7, k2, wl]
        exact add_next hn h4 hc hk hk1 hg (ha _ _ (by omega) hA) ((hf _ _ (by omega)).trans g43) ((hf _ _ (by omega)).trans g26) ((hf _ _ (by omega)).trans g31)
      · have hn : c + 1 = c + (bitAt a out.length).toNat + (bitAt b out.length).toNat := by rw [hA', hB']; simp
        obtain ⟨k1, k2⟩ := half_of (c + 1) (by omega)
        simp -implicitDefEqProofs [-Int.natCast_ediv, -Int.natCast_emod, -Int.natCast_mul, -Int.natCast_add, h0, h1, h6, h7, e1]
        refine callp (bit_ev a out.length _ _) ?_ (hf := g26)
        simp -implicitDefEqProofs [-Int.natCast_ediv, -Int.natCast_emod, -Int.natCast_mul, -Int.natCast_add, h0, h1, h6, h7, hA', ws0]
        refine callp (bit_ev b out.length _ _) ?_ (hf := g31)
        simp -implicitDefEqProofs [-Int.natCast_ediv, -Int.natCast_emod, -Int.natCast_mul, -Int.natCast_add, h0, h1, h6, h7, hB', ws0, ws1]
        refine append_grow (es := out.map eB) (xs := [eB ((c + 1) % 2 == 1)]) h5 (by simp; exact ⟨rfl, rfl⟩) (by simp -implicitDefEqProofs [-Int.natCast_ediv, -Int.natCast_emod, -Int.natCast_mul, -Int.natCast_add, k1, eB, srcOf]) rfl (by simp) (by simp [eB]) (by simp; omega) (by simp) ?_
        intro G' hg hf ha
        simp -implicitDefEqProofs [-Int.natCast_ediv, -Int.natCast_emod, -Int.natCast_mul, -Int.natCast_add, h0, h1, h6, h7, k2, wl]
        exact add_next hn h4 hc hk hk1 hg (ha _ _ (by omega) hA) ((hf _ _ (by omega)).trans g43) ((hf _ _ (by omega)).trans g26) ((hf _ _ (by omega)).trans g31)
      · have hn : c + 2 = c + (bitAt a out.length).toNat + (bitAt b out.length).toNat := by rw [hA', hB']; simp
        obtain ⟨k1, k2⟩ := half_of (c + 2) (by omega)
        simp -implicitDefEqProofs [-Int.natCast_ediv, -Int.natCast_emod, -Int.natCast_mul, -Int.natCast_add, h0, h1, h6, h7, e1]
        refine callp (bit_ev a out.length _ _) ?_ (hf := g26)
        simp -implicitDefEqProofs [-Int.natCast_ediv, -Int.natCast_emod, -Int.natCast_mul, -Int.natCast_add, h0, h1, h6, h7, hA', ws0]
        refine callp (bit_ev b out.length _ _) ?_ (hf := g31)
        simp -implicitDefEqProofs [-Int.natCast_ediv, -Int.natCast_emod, -Int.natCast_mul, -Int.natCast_add, h0, h1, h6, h7, hB', ws0, ws1]
        refine append_grow (es := out.map eB) (xs := [eB ((c + 2) % 2 == 1)]) h5 (by simp; exact ⟨rfl, rfl⟩) (by simp -implicitDefEqProofs [-Int.natCast_ediv, -Int.natCast_emod, -Int.natCast_mul, -Int.natCast_add, k1, eB, srcOf]) rfl (by simp) (by simp [eB]) (by simp; omega) (by simp) ?_
        intro G' hg hf ha
        simp -implicitDefEqProofs [-Int.natCast_ediv, -Int.natCast_emod, -Int.natCast_mul, -Int.natCast_add, h0, h1, h6, h7, k2, wl]
        have nx := add_next hn h4 hc hk hk1 hg (ha _ _ (by omega) hA) ((hf _ _ (by omega)).trans g43) ((hf _ _ (by omega)).trans g26) ((hf _ _ (by omega)).trans g31)
        rw [show (c + 2) / 2 = c / 2 + 1 by omega, show (c + 2) % 2 = c % 2 by omega] at nx
        exact nx
    · have hA' := bitAt_far (Nat.not_lt.1 e1)
      by_cases e2 : out.length < b.length
      · cases hB' : bitAt b out.length
        · have hn : c = c + (bitAt a out.length).toNat + (bitAt b out.length).toNat := by rw [hA', hB']; simp
          obtain ⟨k1, k2⟩ := half_of (c) (by omega)
          simp -implicitDefEqProofs [-Int.natCast_ediv, -Int.natCast_emod, -Int.natCast_mul, -Int.natCast_add, h0, h1, h6, h7, e1, e2]
          refine callp (bit_ev a out.length _ _) ?_ (hf := g26)
          simp -implicitDefEqProofs [-Int.natCast_ediv, -Int.natCast_emod, -Int.natCast_mul, -Int.natCast_add, h0, h1, h6, h7, hA', ws0]
          refine callp (bit_ev b out.length _ _) ?_ (hf := g31)
          simp -implicitDefEqProofs [-Int.natCast_ediv, -Int.natCast_emod, -Int.natCast_mul, -Int.natCast_add, h0, h1, h6, h7, hB', ws0, ws1]
          refine append_grow (es := out.map eB) (xs := [eB ((c) % 2 == 1)]) h5 (by simp; exact ⟨rfl, rfl⟩) (by simp -implicitDefEqProofs [-Int.natCast_ediv, -Int.natCast_emod, -Int.natCast_mul, -Int.natCast_add, k1, eB, srcOf]) rfl (by simp) (by simp [eB]) (by simp; omega) (by simp) ?_
          intro G' hg hf ha
          simp -implicitDefEqProofs [-Int.natCast_ediv, -Int.natCast_emod, -Int.natCast_mul, -Int.natCast_add, h0, h1, h6, h7, k2, wl]
          exact add_next hn h4 hc hk hk1 hg (ha _ _ (by omega) hA) ((hf _ _ (by omega)).trans g43) ((hf _ _ (by omega)).trans g26) ((hf _ _ (by omega)).trans g31)
        · have hn : c + 1 = c + (bitAt a out.length).toNat + (bitAt b out.length).toNat := by rw [hA', hB']; simp
          obtain ⟨k1, k2⟩ := half_of (c + 1) (by omega)
          simp -implicitDefEqProofs [-Int.natCast_ediv, -Int.natCast_emod, -Int.natCast_mul, -Int.natCast_add, h0, h1, h6, h7, e1, e2]
          refine callp (bit_ev a out.length _ _) ?_ (hf := g26)
          simp -implicitDefEqProofs [-Int.natCast_ediv, -Int.natCast_emod, -Int.natCast_mul, -Int.natCast_add, h0, h1, h6, h7, hA', ws0]
          refine callp (bit_ev b out.length _ _) ?_ (hf := g31)
          simp -implicitDefEqProofs [-Int.natCast_ediv, -Int.natCast_emod, -Int.natCast_mul, -Int.natCast_add, h0, h1, h6, h7, hB', ws0, ws1]
          refine append_grow (es := out.map eB) (xs := [eB ((c + 1) % 2 == 1)]) h5 (by simp; exact ⟨rfl, rfl⟩) (by simp -implicitDefEqProofs [-Int.natCast_ediv, -Int.natCast_emod, -Int.natCast_mul, -Int.natCast_add, k1, eB, srcOf]) rfl (by simp) (by simp [eB]) (by simp; omega) (by simp) ?_
          intro G' hg hf ha
          simp -implicitDefEqProofs [-Int.natCast_ediv, -Int.natCast_emod, -Int.natCast_mul, -Int.natCast_add, h0, h1, h6, h7, k2, wl]
          exact add_next hn h4 hc hk hk1 hg (ha _ _ (by omega) hA) ((hf _ _ (by omega)).trans g43) ((hf _ _ (by omega)).trans g26) ((hf _ _ (by omega)).trans g31)
      · have hB' := bitAt_far (Nat.not_lt.1 e2)
        have hc0 : 0 < c := by
          rcases Nat.eq_zero_or_pos c with h | h
          · exact absurd ⟨e1, e2, h⟩ hend
          · exact h
        have hn : c = c + (bitAt a out.length).toNat + (bitAt b out.length).toNat := by rw [hA', hB']; simp
        obtain ⟨k1, k2⟩ := half_of (c) (by omega)
        simp -implicitDefEqProofs [-Int.natCast_ediv, -Int.natCast_emod, -Int.natCast_mul, -Int.natCast_add, h0, h1, h6, h7, e1, e2, hc0]
        refine callp (bit_ev a out.length _ _) ?_ (hf := g26)
        simp -implicitDefEqProofs [-Int.natCast_ediv, -Int.natCast_emod, -Int.natCast_mul, -Int.natCast_add, h0, h1, h6, h7, hA', ws0]
        refine callp (bit_ev b out.length _ _) ?_ (hf := g31)
        simp -implicitDefEqProofs [-Int.natCast_ediv, -Int.natCast_emod, -Int.natCast_mul, -Int.natCast_add, h0, h1, h6, h7, hB', ws0, ws1]
        refine append_grow (es := out.map eB) (xs := [eB ((c) % 2 == 1)]) h5 (by simp; exact ⟨rfl, rfl⟩) (by simp -implicitDefEqProofs [-Int.natCast_ediv, -Int.natCast_emod, -Int.natCast_mul, -Int.natCast_add, k1, eB, srcOf]) rfl (by simp) (by simp [eB]) (by simp; omega) (by simp) ?_
        intro G' hg hf ha
        simp -implicitDefEqProofs [-Int.natCast_ediv, -Int.natCast_emod, -Int.natCast_mul, -Int.natCast_add, h0, h1, h6, h7, k2, wl]
        exact add_next hn h4 hc hk hk1 hg (ha _ _ (by omega) hA) ((hf _ _ (by omega)).trans g43) ((hf _ _ (by omega)).trans g26) ((hf _ _ (by omega)).trans g31)
end Go.E.Ref
end
section
set_option linter.all false
set_option maxRecDepth 100000
namespace Go.E.Ref
open Go Go.Proofs Go.Eng BallBits
variable {TB : Nat → Option Obj}
def PlS (g : GV) (es : List (List PV)) : Prop := g = .p (.sl es) ∨ g = .csl es
theorem PlS.wk {g : GV} {es : List (List PV)} (h : PlS g es) : wkR g (.p (.sl es)) := by
  rcases h with rfl | rfl <;> unfold wkR
  · rfl
  · exact .inr rfl
end Go.E.Ref
end
section
set_option linter.all false
set_option maxRecDepth 100000
namespace Go.E
open Go Go.Proofs Go.Eng
open BallQ (In64 Right q out fits put)
variable {TB : Nat → Option Obj}
def bN (b : Bool) : GV := .p (.bool b)
theorem size_ev (a : Int) (ha : In64 a) (d : Nat) (G : Heap) : Tel Try.prog TB d 80 [.p (.int .i64 a)] G (.p (.int .u64 ((a.natAbs : Nat) : Int))) G := by
  obtain ⟨h0, h1⟩ := ha
  refine Tel.intro mix Try.func80 rfl (Nat.le_of_ble_eq_true rfl) {} (by kernel_rfl) (by kernel_rfl) ?_
  by_cases h : a < 0
  · simp -implicitDefEqProofs [Try.results80, h]
    rw [wu64, wu64]; omega
  · simp -implicitDefEqProofs [Try.results80, h]
    rw [wu64]; omega
theorem common_ev (a b : Nat) (d : Nat) (G : Heap) : Tel Try.prog TB d 79 [.p (.int .u64 (a:Int)), .p (.int .u64 (b:Int))] G (.p (.int .u64 ((a.gcd b : Nat) : Int))) G := by
  refine Tel.intro mix Try.func79 rfl (Nat.le_of_ble_eq_true rfl) {} (by kernel_rfl) (by kernel_rfl) ?_
  simp -implicitDefEqProofs [Try.results79]
  refine gwp_loop (fun k s => ∃ x y : Nat, s.F 0 = .p (.int .u64 (x : Int)) ∧ s.F 1 = .p (.int .u64 (y : Int)) ∧ y = k ∧ x.gcd y = a.gcd b ∧ s.G = cut d G) ⟨a, b, by simp, by simp, rfl, rfl, rfl⟩ ?_
  rintro k s ⟨x, y, h0, h1, rfl, hg, hG⟩
  by_cases h : y = 0
  · subst h
    simp -implicitDefEqProofs [h0, h1, hG]
    simp at hg
    omega
  · have hy : ((y : Nat) : Int) ≠ 0 := by omega
    have e : Int.tmod (x : Int) (y : Int) = ((x % y : Nat) : Int) := by rw [Int.tmod_eq_emod_of_nonneg (by omega)]; omega
    simp -implicitDefEqProofs [h0, h1, hG, h, e]
    exact ⟨x % y, Nat.mod_lt _ (by omega), y, rfl, x % y, rfl, rfl, by rw [← hg, Nat.gcd_comm y, ← Nat.gcd_rec, Nat.gcd_comm]⟩
theorem mul64_ev (a b : Nat) (ha : a < 18446744073709551616) (hb : b < 18446744073709551616) (d : Nat) (G : Heap) : Tel Try.prog TB d 105 [.p (.int .u64 (a:Int)), .p (.int .u64 (b:Int))] G
    (.tup [.p (.int .u64 ((a * b / 18446744073709551616 : Nat) : Int)), .p (.int .u64 ((a * b % 18446744073709551616 : Nat) : Int))]) G := by
  have hs := mul_split (a / 4294967296) (a % 4294967296) (b / 4294967296) (b % 4294967296) 4294967296 (by omega)
  rw [Nat.div_add_mod', Nat.div_add_mod'] at hs
  have sh : ∀ x : Nat, shrI .u64 (x : Int) 32 = ((x / 4294967296 : Nat) : Int) := fun x => shr_eq x 32 (by omega)
  have elo : IntKind.u64.wrap ((a : Int) * (b : Int)) = ((a * b % 18446744073709551616 : Nat) : Int) := by rw [wu64]; omega
  have a1 : a / 4294967296 < 4294967296 := by omega
  have a0 : a % 4294967296 < 4294967296 := by omega
  have b1 : b / 4294967296 < 4294967296 := by omega
  have b0 : b % 4294967296 < 4294967296 := by omega
  rw [hs]
  refine Tel.intro mix Try.func105 rfl (Nat.le_of_ble_eq_true rfl) {} (by kernel_rfl) (by kernel_rfl) ?_
  simp -implicitDefEqProofs [Try.results105, sh, -Int.natCast_ediv, -Int.natCast_emod, -Int.natCast_mul, -Int.natCast_add, and32 a ha, and32 b hb, elo]
  clear hs elo ha hb
  have sh : ∀ x : Nat, shrI .u64 (x : Int) 32 = ((x / 4294967296 : Nat) : Int) := fun x => shr_eq x 32 (by omega)
  generalize a / 4294967296 = x1 at *
  generalize a % 4294967296 = x0 at *
  generalize b / 4294967296 = y1 at *
  generalize b % 4294967296 = y0 at *
  have m1 := mul_lt a1 b1
  have m2 := mul_lt a1 b0
  have m3 := mul_lt a0 b0
  have m4 := mul_lt a0 b1
  have w1 : IntKind.u64.wrap ((x0 : Int) * (y0 : Int)) = ((x0 * y0 : Nat) : Int) := by rw [wu64, ← Int.natCast_mul]; omega
  have w2 : IntKind.u64.wrap ((x1 : Int) * (y0 : Int)) = ((x1 * y0 : Nat) : Int) := by rw [wu64, ← Int.natCast_mul]; omega
  have w3 : IntKind.u64.wrap ((x0 : Int) * (y1 : Int)) = ((x0 * y1 : Nat) : Int) := by rw [wu64, ← Int.natCast_mul]; omega
  have w4 : IntKind.u64.wrap ((x1 : Int) * (y1 : Int)) = ((x1 * y1 : Nat) : Int) := by rw [wu64, ← Int.natCast_mul]; omega
  rw [w1, w2, w3, w4, sh]
  generalize x0 * y0 = p00 at *
  generalize x1 * y0 = p10 at *
  generalize x0 * y1 = p01 at *
  generalize x1 * y1 = p11 at *
  have e1 : IntKind.u64.wrap ((p10 : Int) + ((p00 / 4294967296 : Nat) : Int)) = ((p10 + p00 / 4294967296 : Nat) : Int) := by rw [wu64]; omega
  have et : p10 + p00 / 4294967296 < 18446744073709551616 := by omega
  rw [e1, and32 _ et, sh]
  have e2 : IntKind.u64.wrap (((p10 + p00 / 4294967296) % 4294967296 : Nat) + (p01 : Int)) = (((p10 + p00 / 4294967296) % 4294967296 + p01 : Nat) : Int) := by rw [wu64]; omega
  rw [e2, sh]
  have e3 : IntKind.u64.wrap ((p11 : Int) + (((p10 + p00 / 4294967296) / 4294967296 : Nat) : Int)) = ((p11 + (p10 + p00 / 4294967296) / 4294967296 : Nat) : Int) := by rw [wu64]; omega
  rw [e3, wu64]
  omega
def tabOK (s : ByteArray) : Bool := (List.range 256).all fun i => match s[i]? with
  | some v => i == 0 || v.toNat == Nat.log2 i + 1
  | none => false
theorem tab_idx {P : Program} {t : TypeId} {s : ByteArray} {k : IntKind} {i : Nat} {K : GV → Prop} (hs : isStr P t = true) (ht : tabOK s = true) (hi : i < 256) (h0 : i ≠ 0) (h : K (.p (.int .u8 ((Nat.log2 i + 1 : Nat) : Int)))) :
    gIndex P t (.p (.str s)) (.p (.int k (i : Int))) K := by
  unfold tabOK at ht
  rw [List.all_eq_true] at ht
  have h1 := ht i (List.mem_range.2 hi)
  unfold gIndex
  dsimp only
  refine ⟨hs, by omega, ?_⟩
  rw [Int.toNat_natCast]
  split at h1
  · rename_i u hu
    rw [hu]
    dsimp only
    have : u.toNat = Nat.log2 i + 1 := by
      rcases Bool.or_eq_true _ _ ▸ h1 with h2 | h2
      · exact absurd (beq_iff_eq.1 h2) h0
      · exact beq_iff_eq.1 h2
    rw [this]
    exact h
  · cases h1
theorem tab_val {i : Nat} (hi : i < 256) (h0 : i ≠ 0) : Nat.log2 i + 1 ≤ 8 ∧ i < 2 ^ (Nat.log2 i + 1) ∧ 2 ^ (Nat.log2 i + 1) ≤ 2 * i := by
  refine ⟨?_, Nat.lt_log2_self, ?_⟩
  · have := (Nat.log2_lt h0).2 (show i < 2 ^ 8 by omega)
    omega
  · have := Nat.log2_self_le h0
    rw [Nat.pow_succ]; omega
theorem pow_parts {x k v : Nat} (h1 : x / 2 ^ k < 2 ^ v) (h2 : 2 ^ v ≤ 2 * (x / 2 ^ k)) : x < 2 ^ (k + v) ∧ 2 ^ (k + v) ≤ 2 * x := by
  have hp : 0 < 2 ^ k := Nat.pow_pos (by decide)
  rw [Nat.pow_add]
  constructor
  · rw [Nat.div_lt_iff_lt_mul hp] at h1
    rw [Nat.mul_comm]; exact h1
  · have h3 := Nat.mul_le_mul_left (2 ^ k) h2
    have h4 := Nat.div_mul_le_self x (2 ^ k)
    have h5 : 2 ^ k * (2 * (x / 2 ^ k)) = 2 * (x / 2 ^ k * 2 ^ k) := by
      rw [Nat.mul_comm (2 ^ k), Nat.mul_assoc]
    omega
theorem wu8 {x : Nat} (h : x < 256) : IntKind.u8.wrap (x : Int) = (x : Int) := by
  simp [IntKind.wrap, IntKind.signed, IntKind.bits]; omega
theorem len64_ev (x : Nat) (h0 : 0 < x) (hx : x < 18446744073709551616) (d : Nat) (G : Heap) : ∃ n : Nat, Tel Try.prog TB d 119 [.p (.int .u64 (x:Int))] G (.p (.int .i64 (n : Int))) G ∧ n ≤ 64 ∧ x < 2 ^ n ∧ 2 ^ n ≤ 2 * x := by
  have s32 : ∀ x : Nat, shrI .u64 (x : Int) 32 = ((x / 4294967296 : Nat) : Int) := fun x => shr_eq x 32 (by omega)
  have s16 : ∀ x : Nat, shrI .u64 (x : Int) 16 = ((x / 65536 : Nat) : Int) := fun x => shr_eq x 16 (by omega)
  have s8 : ∀ x : Nat, shrI .u64 (x : Int) 8 = ((x / 256 : Nat) : Int) := fun x => shr_eq x 8 (by omega)
  by_cases h1 : 4294967296 ≤ x
  · have q1 : (4294967296 ≤ ((x : Nat) : Int)) = True := by simp only [eq_iff_iff, iff_true]; omega
    by_cases h2 : 65536 ≤ x / 4294967296
    · have q2 : (65536 ≤ ((x / 4294967296 : Nat) : Int)) = True := by simp only [eq_iff_iff, iff_true]; omega
      by_cases h3 : 256 ≤ x / 4294967296 / 65536
      · have q3 : (256 ≤ ((x / 4294967296 / 65536 : Nat) : Int)) = True := by simp only [eq_iff_iff, iff_true]; omega
        have hlt : x / 4294967296 / 65536 / 256 < 256 := by omega
        have h0' : x / 4294967296 / 65536 / 256 ≠ 0 := by omega
        obtain ⟨v8, vl, vg⟩ := tab_val hlt h0'
        have ed : x / 4294967296 / 65536 / 256 = x / 2 ^ 56 := by omega
        have pp := pow_parts (x := x) (k := 56) (v := Nat.log2 (x / 4294967296 / 65536 / 256) + 1) (by rw [← ed]; exact vl) (by rw [← ed]; exact vg)
        refine ⟨56 + (Nat.log2 (x / 4294967296 / 65536 / 256) + 1), ?_, by omega, pp.1, pp.2⟩
        clear pp ed vl vg
        have ew : IntKind.u8.wrap ((x / 4294967296 / 65536 / 256 : Nat) : Int) = ((x / 4294967296 / 65536 / 256 : Nat) : Int) := wu8 hlt
        refine Tel.intro mix Try.func119 rfl (Nat.le_of_ble_eq_true rfl) {} (by kernel_rfl) (by kernel_rfl) ?_
        simp -implicitDefEqProofs [Try.results119, -gIndex, -Int.natCast_ediv, s32, s16, s8, q1, q2, q3, ew]
        refine tab_idx (by simp) (by kernel_rfl) hlt h0' ?_
        simp -implicitDefEqProofs [Try.results119]
        generalize Nat.log2 (x / 4294967296 / 65536 / 256) = v at *
        simp only [wi64]
        omega
      · have q3 : (256 ≤ ((x / 4294967296 / 65536 : Nat) : Int)) = False := by simp only [eq_iff_iff, iff_false]; omega
        have hlt : x / 4294967296 / 65536 < 256 := by omega
        have h0' : x / 4294967296 / 65536 ≠ 0 := by omega
        obtain ⟨v8, vl, vg⟩ := tab_val hlt h0'
        have ed : x / 4294967296 / 65536 = x / 2 ^ 48 := by omega
        have pp := pow_parts (x := x) (k := 48) (v := Nat.log2 (x / 4294967296 / 65536) + 1) (by rw [← ed]; exact vl) (by rw [← ed]; exact vg)
        refine ⟨48 + (Nat.log2 (x / 4294967296 / 65536) + 1), ?_, by omega, pp.1, pp.2⟩
        clear pp ed vl vg
        have ew : IntKind.u8.wrap ((x / 4294967296 / 65536 : Nat) : Int) = ((x / 4294967296 / 65536 : Nat) : Int) := wu8 hlt
        refine Tel.intro mix Try.func119 rfl (Nat.le_of_ble_eq_true rfl) {} (by kernel_rfl) (by kernel_rfl) ?_
        simp -implicitDefEqProofs [Try.results119, -gIndex, -Int.natCast_ediv, s32, s16, s8, q1, q2, q3, ew]
        refine tab_idx (by simp) (by kernel_rfl) hlt h0' ?_
        simp -implicitDefEqProofs [Try.results119]
        generalize Nat.log2 (x / 4294967296 / 65536) = v at *
        simp only [wi64]
        omega
    · have q2 : (65536 ≤ ((x / 4294967296 : Nat) : Int)) = False := by simp only [eq_iff_iff, iff_false]; omega
      by_cases h3 : 256 ≤ x / 4294967296
      · have q3 : (256 ≤ ((x / 4294967296 : Nat) : Int)) = True := by simp only [eq_iff_iff, iff_true]; omega
        have hlt : x / 4294967296 / 256 < 256 := by omega
        have h0' : x / 4294967296 / 256 ≠ 0 := by omega
        obtain ⟨v8, vl, vg⟩ := tab_val hlt h0'
        have ed : x / 4294967296 / 256 = x / 2 ^ 40 := by omega
        have pp := pow_parts (x := x) (k := 40) (v := Nat.log2 (x / 4294967296 / 256) + 1) (by rw [← ed]; exact vl) (by rw [← ed]; exact vg)
        refine ⟨40 + (Nat.log2 (x / 4294967296 / 256) + 1), ?_, by omega, pp.1, pp.2⟩
        clear pp ed vl vg
        have ew : IntKind.u8.wrap ((x / 4294967296 / 256 : Nat) : Int) = ((x / 4294967296 / 256 : Nat) : Int) := wu8 hlt
        refine Tel.intro mix Try.func119 rfl (Nat.le_of_ble_eq_true rfl) {} (by kernel_rfl) (by kernel_rfl) ?_
        simp -implicitDefEqProofs [Try.results119, -gIndex, -Int.natCast_ediv, s32, s16, s8, q1, q2, q3, ew]
        refine tab_idx (by simp) (by kernel_rfl) hlt h0' ?_
        simp -implicitDefEqProofs [Try.results119]
        generalize Nat.log2 (x / 4294967296 / 256) = v at *
        simp only [wi64]
        omega
      · have q3 : (256 ≤ ((x / 4294967296 : Nat) : Int)) = False := by simp only [eq_iff_iff, iff_false]; omega
        have hlt : x / 4294967296 < 256 := by omega
        have h0' : x / 4294967296 ≠ 0 := by omega
        obtain ⟨v8, vl, vg⟩ := tab_val hlt h0'
        have ed : x / 4294967296 = x / 2 ^ 32 := by omega
        have pp := pow_parts (x := x) (k := 32) (v := Nat.log2 (x / 4294967296) + 1) (by rw [← ed]; exact vl) (by rw [← ed]; exact vg)
        refine ⟨32 + (Nat.log2 (x / 4294967296) + 1), ?_, by omega, pp.1, pp.2⟩
        clear pp ed vl vg
        have ew : IntKind.u8.wrap ((x / 4294967296 : Nat) : Int) = ((x / 4294967296 : Nat) : Int) := wu8 hlt
        refine Tel.intro mix Try.func119 rfl (Nat.le_of_ble_eq_true rfl) {} (by kernel_rfl) (by kernel_rfl) ?_
        simp -implicitDefEqProofs [Try.results119, -gIndex, -Int.natCast_ediv, s32, s16, s8, q1, q2, q3, ew]
        refine tab_idx (by simp) (by kernel_rfl) hlt h0' ?_
        simp -implicitDefEqProofs [Try.results119]
        generalize Nat.log2 (x / 4294967296) = v at *
        simp only [wi64]
        omega
  · have q1 : (4294967296 ≤ ((x : Nat) : Int)) = False := by simp only [eq_iff_iff, iff_false]; omega
    by_cases h2 : 65536 ≤ x
    · have q2 : (65536 ≤ ((x : Nat) : Int)) = True := by simp only [eq_iff_iff, iff_true]; omega
      by_cases h3 : 256 ≤ x / 65536
      · have q3 : (256 ≤ ((x / 65536 : Nat) : Int)) = True := by simp only [eq_iff_iff, iff_true]; omega
        have hlt : x / 65536 / 256 < 256 := by omega
        have h0' : x / 65536 / 256 ≠ 0 := by omega
        obtain ⟨v8, vl, vg⟩ := tab_val hlt h0'
        have ed : x / 65536 / 256 = x / 2 ^ 24 := by omega
        have pp := pow_parts (x := x) (k := 24) (v := Nat.log2 (x / 65536 / 256) + 1) (by rw [← ed]; exact vl) (by rw [← ed]; exact vg)
        refine ⟨24 + (Nat.log2 (x / 65536 / 256) + 1), ?_, by omega, pp.1, pp.2⟩
        clear pp ed vl vg
        have ew : IntKind.u8.wrap ((x / 65536 / 256 : Nat) : Int) = ((x / 65536 / 256 : Nat) : Int) := wu8 hlt
        refine Tel.intro mix Try.func119 rfl (Nat.le_of_ble_eq_true rfl) {} (by kernel_rfl) (by kernel_rfl) ?_
        simp -implicitDefEqProofs [Try.results119, -gIndex, -Int.natCast_ediv, s32, s16, s8, q1, q2, q3, ew]
        refine tab_idx (by simp) (by kernel_rfl) hlt h0' ?_
        simp -implicitDefEqProofs [Try.results119]
        generalize Nat.log2 (x / 65536 / 256) = v at *
        simp only [wi64]
        omega
      · have q3 : (256 ≤ ((x / 65536 : Nat) : Int)) = False := by simp only [eq_iff_iff, iff_false]; omega
        have hlt : x / 65536 < 256 := by omega
        have h0' : x / 65536 ≠ 0 := by omega
        obtain ⟨v8, vl, vg⟩ := tab_val hlt h0'
        have ed : x / 65536 = x / 2 ^ 16 := by omega
        have pp := pow_parts (x := x) (k := 16) (v := Nat.log2 (x / 65536) + 1) (by rw [← ed]; exact vl) (by rw [← ed]; exact vg)
        refine ⟨16 + (Nat.log2 (x / 65536) + 1), ?_, by omega, pp.1, pp.2⟩
        clear pp ed vl vg
        have ew : IntKind.u8.wrap ((x / 65536 : Nat) : Int) = ((x / 65536 : Nat) : Int) := wu8 hlt
        refine Tel.intro mix Try.func119 rfl (Nat.le_of_ble_eq_true rfl) {} (by kernel_rfl) (by kernel_rfl) ?_
        simp -implicitDefEqProofs [Try.results119, -gIndex, -Int.natCast_ediv, s32, s16, s8, q1, q2, q3, ew]
        refine tab_idx (by simp) (by kernel_rfl) hlt h0' ?_
        simp -implicitDefEqProofs [Try.results119]
        generalize Nat.log2 (x / 65536) = v at *
        simp only [wi64]
        omega
    · have q2 : (65536 ≤ ((x : Nat) : Int)) = False := by simp only [eq_iff_iff, iff_false]; omega
      by_cases h3 : 256 ≤ x
      · have q3 : (256 ≤ ((x : Nat) : Int)) = True := by simp only [eq_iff_iff, iff_true]; omega
        have hlt : x / 256 < 256 := by omega
        have h0' : x / 256 ≠ 0 := by omega
        obtain ⟨v8, vl, vg⟩ := tab_val hlt h0'
        have ed : x / 256 = x / 2 ^ 8 := by omega
        have pp := pow_parts (x := x) (k := 8) (v := Nat.log2 (x / 256) + 1) (by rw [← ed]; exact vl) (by rw [← ed]; exact vg)
        refine ⟨8 + (Nat.log2 (x / 256) + 1), ?_, by omega, pp.1, pp.2⟩
        clear pp ed vl vg
        have ew : IntKind.u8.wrap ((x / 256 : Nat) : Int) = ((x / 256 : Nat) : Int) := wu8 hlt
        refine Tel.intro mix Try.func119 rfl (Nat.le_of_ble_eq_true rfl) {} (by kernel_rfl) (by kernel_rfl) ?_
        simp -implicitDefEqProofs [Try.results119, -gIndex, -Int.natCast_ediv, s32, s16, s8, q1, q2, q3, ew]
        refine tab_idx (by simp) (by kernel_rfl) hlt h0' ?_
        simp -implicitDefEqProofs [Try.results119]
        generalize Nat.log2 (x / 256) = v at *
        simp only [wi64]
        omega
      · have q3 : (256 ≤ ((x : Nat) : Int)) = False := by simp only [eq_iff_iff, iff_false]; omega
        have hlt : x < 256 := by omega
        have h0' : x ≠ 0 := by omega
        obtain ⟨v8, vl, vg⟩ := tab_val hlt h0'
        have ed : x = x / 2 ^ 0 := by omega
        have pp := pow_parts (x := x) (k := 0) (v := Nat.log2 (x) + 1) (by rw [← ed]; exact vl) (by rw [← ed]; exact vg)
        refine ⟨0 + (Nat.log2 (x) + 1), ?_, by omega, pp.1, pp.2⟩
        clear pp ed vl vg
        have ew : IntKind.u8.wrap ((x : Nat) : Int) = ((x : Nat) : Int) := wu8 hlt
        refine Tel.intro mix Try.func119 rfl (Nat.le_of_ble_eq_true rfl) {} (by kernel_rfl) (by kernel_rfl) ?_
        simp -implicitDefEqProofs [Try.results119, -gIndex, -Int.natCast_ediv, s32, s16, s8, q1, q2, q3, ew]
        refine tab_idx (by simp) (by kernel_rfl) hlt h0' ?_
        simp -implicitDefEqProofs [Try.results119]
        generalize Nat.log2 (x) = v at *
        simp only [wi64]
        omega
theorem zeros_ev (x : Nat) (h0 : 0 < x) (hx : x < 18446744073709551616) (d : Nat) (G : Heap) : ∃ s : Nat, Tel Try.prog TB d 111 [.p (.int .u64 (x:Int))] G (.p (.int .i64 (s : Int))) G ∧
    s ≤ 63 ∧ x * 2 ^ s < 18446744073709551616 ∧ 9223372036854775808 ≤ x * 2 ^ s := by
  obtain ⟨n, hn, n0, n1, n2⟩ := len64_ev (TB := TB) x h0 hx (d + 1) empty
  have hn0 : n ≠ 0 := by intro e; subst e; simp at n1; omega
  refine ⟨64 - n, ?_, by omega, ?_, ?_⟩
  · refine Tel.intro mix Try.func111 rfl (Nat.le_of_ble_eq_true rfl) {} (by kernel_rfl) (by kernel_rfl) ?_
    simp -implicitDefEqProofs [Try.results111]
    refine callp hn ?_
    simp -implicitDefEqProofs [Try.results111, wi64]
    omega
  · have : 2 ^ n * 2 ^ (64 - n) = 18446744073709551616 := by rw [← Nat.pow_add, show n + (64 - n) = 64 by omega]
    have h := Nat.mul_lt_mul_of_pos_right n1 (Nat.pow_pos (n := 64 - n) (show 0 < 2 by omega))
    omega
  · have : 2 ^ n * 2 ^ (64 - n) = 18446744073709551616 := by rw [← Nat.pow_add, show n + (64 - n) = 64 by omega]
    have h := Nat.mul_le_mul_right (2 ^ (64 - n)) n2
    rw [Nat.mul_assoc] at h
    omega
theorem add64_ev (x y b : Nat) (hb : b ≤ 1) (d : Nat) (G : Heap) : Tel Try.prog TB d 109 [.p (.int .u64 (x : Int)), .p (.int .u64 (y : Int)), .p (.int .u64 (b : Int))] G
    (.tup [.p (.int .u64 (((x + y + b) % 18446744073709551616 : Nat) : Int)), .p (.int .u64 (((x + y + b) / 18446744073709551616 : Nat) : Int))]) G :=
  tel_carry (en := addEntry) Try.func109 (by kernel_rfl) (by kernel_rfl) (by kernel_rfl) (by kernel_rfl) (run_add x y b hb) d G
theorem sub64_ev (x y b : Nat) (hb : b ≤ 1) (d : Nat) (G : Heap) : Tel Try.prog TB d 110 [.p (.int .u64 (x : Int)), .p (.int .u64 (y : Int)), .p (.int .u64 (b : Int))] G
    (.tup [.p (.int .u64 (((x + 18446744073709551616 - y - b) % 18446744073709551616 : Nat) : Int)), .p (.int .u64 ((if x < y + b then 1 else 0 : Nat) : Int))]) G :=
  tel_carry (en := subEntry) Try.func110 (by kernel_rfl) (by kernel_rfl) (by kernel_rfl) (by kernel_rfl) (run_sub x y b hb) d G
theorem put_ev (n k : Nat) (m : Bool) (hn : n < 18446744073709551616) (hk : k < 18446744073709551616) (d : Nat) (G : Heap) : Tel Try.prog TB d 82 [.p (.int .u64 (n : Int)), .p (.int .u64 (k : Int)), .p (.bool m)] G
    (.tup [.agg [.p (.int .i64 (put n k m).1), .p (.int .i64 (put n k m).2.1)], .p (.int .i64 (put n k m).2.2)]) G := by
  unfold BallQ.put
  refine Tel.intro mix Try.func82 rfl (Nat.le_of_ble_eq_true rfl) {} (by kernel_rfl) (by kernel_rfl) ?_
  by_cases h1 : 9223372036854775808 ≤ n
  · have e1 : ((9223372036854775807 : Int) < (n : Int)) = True := by simp only [eq_iff_iff, iff_true]; omega
    simp -implicitDefEqProofs [Try.results82, e1, show ¬ (n < 9223372036854775808) by omega]
  · have e1 : ((9223372036854775807 : Int) < (n : Int)) = False := by simp only [eq_iff_iff, iff_false]; omega
    by_cases h2 : 9223372036854775808 ≤ k
    · have e2 : ((9223372036854775807 : Int) < (k : Int)) = True := by simp only [eq_iff_iff, iff_true]; omega
      simp -implicitDefEqProofs [Try.results82, e1, e2, show ¬ (k < 9223372036854775808) by omega]
    · have e2 : ((9223372036854775807 : Int) < (k : Int)) = False := by simp only [eq_iff_iff, iff_false]; omega
      have w1 : IntKind.i64.wrap (n : Int) = n := by rw [wi64]; omega
      have w2 : IntKind.i64.wrap (k : Int) = k := by rw [wi64]; omega
      have w3 : IntKind.i64.wrap (-(n : Int)) = -(n : Int) := by rw [wi64]; omega
      have g1 : n < 9223372036854775808 := by omega
      have g2 : k < 9223372036854775808 := by omega
      cases m
      · simp -implicitDefEqProofs [Try.results82, e1, e2, w1, w2, w3, g1, g2]
      · simp -implicitDefEqProofs [Try.results82, e1, e2, w1, w2, w3, g1, g2]
theorem product_ev (a b : Nat) (ha : a < 18446744073709551616) (hb : b < 18446744073709551616) (d : Nat) (G : Heap) : Tel Try.prog TB d 81 [.p (.int .u64 (a : Int)), .p (.int .u64 (b : Int))] G
    (.tup [.p (.int .u64 ((a * b % 18446744073709551616 : Nat) : Int)), .p (.bool (decide (a * b < 18446744073709551616)))]) G := by
  have e : decide ((((a * b / 18446744073709551616 : Nat)) : Int) = 0) = decide (a * b < 18446744073709551616) := by rw [decide_eq_decide]; omega
  refine Tel.intro mix Try.func81 rfl (Nat.le_of_ble_eq_true rfl) {} (by kernel_rfl) (by kernel_rfl) ?_
  simp -implicitDefEqProofs [-Int.natCast_ediv, -Int.natCast_emod, -Int.natCast_mul, -Int.natCast_add, Try.results81]
  refine callp (mul64_ev a b ha hb _ _) ?_
  simp -implicitDefEqProofs [-Int.natCast_ediv, -Int.natCast_emod, -Int.natCast_mul, -Int.natCast_add, Try.results81, e]
theorem right_ev (n k : Int) (hn : In64 n) (hk : In64 k) (d : Nat) (G : Heap) : Tel Try.prog TB d 48 [.agg [.p (.int .i64 n), .p (.int .i64 k)]] G (.p (.bool (decide (Right n k)))) G := by
  refine Tel.intro mix Try.func48 rfl (Nat.le_of_ble_eq_true rfl) {} (by kernel_rfl) (by kernel_rfl) ?_
  by_cases h0 : 0 < k
  · by_cases h1 : n = -9223372036854775808
    · have : ¬ Right n k := fun h => h.2.1 h1
      subst h1
      simp -implicitDefEqProofs [Try.results48, h0, this]
    · have e : decide (((n.natAbs.gcd k.natAbs : Nat) : Int) = 1) = decide (Right n k) := by
        rw [decide_eq_decide]
        exact ⟨fun h => ⟨h0, h1, by omega⟩, fun h => by have := h.2.2; omega⟩
      simp -implicitDefEqProofs [Try.results48, h0, h1]
      refine callp (size_ev n hn _ _) ?_
      simp -implicitDefEqProofs [Try.results48]
      refine callp (size_ev k hk _ _) ?_
      simp -implicitDefEqProofs [Try.results48]
      refine callp (common_ev _ _ _ _) ?_
      simp -implicitDefEqProofs [Try.results48, e]
  · have : ¬ Right n k := fun h => h0 h.1
    simp -implicitDefEqProofs [Try.results48, h0, this]
end Go.E
end
section
set_option linter.all false
set_option maxRecDepth 100000
namespace Go.E
open Go Go.Proofs Go.Eng
open BallQ (In64 Right q out fits put)
variable {TB : Nat → Option Obj}
theorem test_iff {q y0 rh c : Nat} (hq : q < 4294967296) (hy0 : y0 < 4294967296) (hr : rh < 4294967296) (hc : c < 4294967296) :
    (IntKind.u64.wrap (IntKind.u64.wrap (4294967296 * (rh : Int)) + (c : Int)) < IntKind.u64.wrap ((q : Int) * (y0 : Int))) = (4294967296 * rh + c < q * y0) := by
  have := test_eq hq hy0 hr hc
  rw [decide_eq_decide] at this
  exact propext this
structure DV (σ : St) (G : Heap) (Y s u c1 c0 : Nat) : Prop where
  f2 : σ.F 2 = .p (.int .u64 (Y : Int))
  f8 : σ.F 8 = .p (.int .u64 (s : Int))
  f9 : σ.F 9 = .p (.int .u64 ((Y / 4294967296 : Nat) : Int))
  f10 : σ.F 10 = .p (.int .u64 ((Y % 4294967296 : Nat) : Int))
  f11 : σ.F 11 = .p (.int .u64 (u : Int))
  f13 : σ.F 13 = .p (.int .u64 (c1 : Int))
  f14 : σ.F 14 = .p (.int .u64 (c0 : Int))
  g : σ.G = G
theorem DV_iff {σ : St} {G : Heap} {Y s u c1 c0 : Nat} : DV σ G Y s u c1 c0 ↔ σ.F 2 = .p (.int .u64 (Y : Int)) ∧ σ.F 8 = .p (.int .u64 (s : Int)) ∧ σ.F 9 = .p (.int .u64 ((Y / 4294967296 : Nat) : Int)) ∧ σ.F 10 = .p (.int .u64 ((Y % 4294967296 : Nat) : Int)) ∧
    σ.F 11 = .p (.int .u64 (u : Int)) ∧ σ.F 13 = .p (.int .u64 (c1 : Int)) ∧ σ.F 14 = .p (.int .u64 (c0 : Int)) ∧ σ.G = G :=
  ⟨fun ⟨a, b, c, d, e, f, g, h⟩ => ⟨a, b, c, d, e, f, g, h⟩, fun ⟨a, b, c, d, e, f, g, h⟩ => ⟨a, b, c, d, e, f, g, h⟩⟩
theorem quo_eq {R y : Nat} (hR : R < 18446744073709551616) : IntKind.u64.wrap ((R : Int) / (y : Int)) = ((R / y : Nat) : Int) := by
  have := (sub_mul_eq (y1 := y) hR).1
  rwa [Int.tdiv_eq_ediv_of_nonneg (by omega)] at this
theorem rem_eq {R y : Nat} (hR : R < 18446744073709551616) : IntKind.u64.wrap ((R : Int) - IntKind.u64.wrap (((R / y : Nat) : Int) * (y : Int))) = ((R % y : Nat) : Int) := (sub_mul_eq (y1 := y) hR).2
theorem ge_iff {q n : Nat} {z : Int} (hz : z = (n : Int)) : (z ≤ (q : Int)) = (n ≤ q) := by subst hz; exact propext (by omega)
theorem lt_two {R Y c : Nat} (h : R < Y) (hc : c < 4294967296) : (R * 4294967296 + c) / Y < 4294967296 := by
  rw [Nat.div_lt_iff_lt_mul (by omega)]; omega
theorem wq_eq {Q v : Nat} (hQ : Q < 4294967296) (hv : v < 4294967296) : IntKind.u64.wrap (IntKind.u64.wrap ((Q : Int) * 4294967296) + (v : Int)) = ((Q * 4294967296 + v : Nat) : Int) := by
  rw [wu64, wu64]; omega
theorem div64_ev (hi lo y : Nat) (h : hi < y) (hy : y < 18446744073709551616) (hl : lo < 18446744073709551616) (d : Nat) (G : Heap) : Tel Try.prog TB d 91 [.p (.int .u64 (hi : Int)), .p (.int .u64 (lo : Int)), .p (.int .u64 (y : Int))] G
    (.tup [.p (.int .u64 (((hi * 18446744073709551616 + lo) / y : Nat) : Int)), .p (.int .u64 (((hi * 18446744073709551616 + lo) % y : Nat) : Int))]) G := by
  have y0 : ¬ (y = 0) := by omega
  have yh : ¬ ((y : Int) ≤ (hi : Int)) := by omega
  have yh' : ¬ (y ≤ hi) := by omega
  by_cases h0 : hi = 0
  · subst h0
    have e1 := (sub_mul_eq (y1 := y) hl).1
    rw [Int.tdiv_eq_ediv_of_nonneg (by omega)] at e1
    have e2 : Int.tmod (lo : Int) (y : Int) = ((lo % y : Nat) : Int) := by rw [Int.tmod_eq_emod_of_nonneg (by omega)]; rfl
    refine Tel.intro mix Try.func91 rfl (Nat.le_of_ble_eq_true rfl) {} (by kernel_rfl) (by kernel_rfl) ?_
    simp -implicitDefEqProofs [-Int.natCast_ediv, -Int.natCast_emod, -Int.natCast_mul, -Int.natCast_add, Try.results91, y0, yh, yh', e1, e2]
  · obtain ⟨s, hz, s63, sN, sL⟩ := zeros_ev (TB := TB) y (by omega) hy (d + 1) empty
    have es : IntKind.u64.wrap (s : Int) = (s : Int) := by rw [wu64]; clear sN sL; omega
    have es2 : IntKind.u64.wrap (64 - (s : Int)) = ((64 - s : Nat) : Int) := by rw [wu64]; clear sN sL; omega
    have s64 : s ≤ 64 := Nat.le_trans s63 (by decide)
    have p1 : 0 < 2 ^ s := Nat.pow_pos (by decide)
    have pp : 2 ^ (64 - s) * 2 ^ s = 18446744073709551616 := by rw [← Nat.pow_add, Nat.sub_add_cancel s64]
    obtain ⟨k1, k2, k3, k4⟩ := shift_parts pp h hl sN
    have eY : shlI .u64 (y : Int) (s : Int) = ((y * 2 ^ s : Nat) : Int) := by rw [shl_eq _ _ s64, Nat.mod_eq_of_lt sN]
    have eH : shlI .u64 (hi : Int) (s : Int) = ((hi * 2 ^ s : Nat) : Int) := by rw [shl_eq _ _ s64, Nat.mod_eq_of_lt k1]
    have eL : shlI .u64 (lo : Int) (s : Int) = ((lo * 2 ^ s % 18446744073709551616 : Nat) : Int) := shl_eq _ _ s64
    have eR : shrI .u64 (lo : Int) ((64 - s : Nat) : Int) = ((lo / 2 ^ (64 - s) : Nat) : Int) := shr_eq _ _ (Nat.sub_le _ _)
    have eO := or_eq k1 k2 s64
    have hLm : lo * 2 ^ s % 18446744073709551616 < 18446744073709551616 := Nat.mod_lt _ (by decide)
    have eq1 : (hi * 18446744073709551616 + lo) / y = (hi * 18446744073709551616 + lo) * 2 ^ s / (y * 2 ^ s) := by rw [Nat.mul_div_mul_right _ _ p1]
    have eq2 : (hi * 18446744073709551616 + lo) % y = (hi * 18446744073709551616 + lo) * 2 ^ s % (y * 2 ^ s) / 2 ^ s := by
      rw [Nat.mul_mod_mul_right, Nat.mul_div_cancel _ p1]
    rw [eq1, eq2, k4]
    clear eq1 eq2 k4 k1 k2 pp p1
    generalize hi * 2 ^ s + lo / 2 ^ (64 - s) = u at *
    generalize hi * 2 ^ s = H at *
    generalize lo / 2 ^ (64 - s) = E at *
    generalize lo * 2 ^ s % 18446744073709551616 = L at *
    generalize y * 2 ^ s = Y at *
    have a1 := and32 _ sN
    have a2 := and32 _ hLm
    have sh : ∀ x : Nat, shrI .u64 (x : Int) 32 = ((x / 4294967296 : Nat) : Int) := fun x => shr_eq x 32 (by omega)
    have n : Norm Y (Y / 4294967296) (Y % 4294967296) := ⟨by omega, sL, sN, by omega⟩
    have hh := n.half
    have hY0 : 0 < Y := by omega
    have td := BallQ.two_digits (U := u * 18446744073709551616 + L) (y := Y) (B := 4294967296) (u := u) (c1 := L / 4294967296) (c0 := L % 4294967296) hY0 (by omega)
    obtain ⟨Q, eQ⟩ : ∃ Q, Q = (u * 4294967296 + L / 4294967296) / Y := ⟨_, rfl⟩
    obtain ⟨R, eM⟩ : ∃ R, R = (u * 4294967296 + L / 4294967296) % Y := ⟨_, rfl⟩
    have rq := rest_eq (u := u) (c := L / 4294967296) (y := Y) eQ hY0 n.hi
    rw [td.1, td.2, ← eQ, ← eM]
    rw [← eM] at rq
    clear td
    have hc1 : L / 4294967296 < 4294967296 := by omega
    have hQ : Q < 4294967296 := by rw [eQ]; exact lt_two k3 hc1
    have hR : R < Y := by rw [eM]; exact Nat.mod_lt _ hY0
    have hc0 : L % 4294967296 < 4294967296 := by omega
    have hy1 : 0 < Y / 4294967296 := by omega
    have hy2 : Y / 4294967296 < 4294967296 := hh.2
    have b1 := BallQ.digit_bound n.e k3 n.d0 (by omega) hy1
    have r1 : u % (Y / 4294967296) < Y / 4294967296 := Nat.mod_lt _ hy1
    have hd0 := n.d0
    have w1 := quo_eq (R := u) (y := Y / 4294967296) (by omega)
    have w2 := rem_eq (R := u) (y := Y / 4294967296) (by omega)
    have nz : Y / 4294967296 ≠ 0 := by omega
    have nz2 : 4294967296 ≤ Y := by omega
    refine Tel.intro mix Try.func91 rfl (Nat.le_of_ble_eq_true rfl) {} (by kernel_rfl) (by kernel_rfl) ?_
    simp -implicitDefEqProofs [-Int.natCast_ediv, -Int.natCast_emod, -Int.natCast_mul, -Int.natCast_add, Try.results91, y0, yh, yh', h0]
    refine callp hz ?_
    simp -implicitDefEqProofs [-Int.natCast_ediv, -Int.natCast_emod, -Int.natCast_mul, -Int.natCast_add, Try.results91, es, es2, eY, eH, eL, eR, eO, a1, a2, sh, nz, nz2, w1, w2]
    clear yh yh' y0 h0 hz eY eH eL eR eO a1 a2 es es2 h hl hy
    refine gwp_loopP (fun k σ => ∃ qh rh : Nat, DV σ (cut d G) Y s u (L / 4294967296) (L % 4294967296) ∧ σ.F 15 = .p (.int .u64 (qh : Int)) ∧ σ.F 16 = .p (.int .u64 (rh : Int)) ∧
      BallQ.Digit u (L / 4294967296) Y (Y / 4294967296) (Y % 4294967296) 4294967296 qh rh ∧ qh ≤ 4294967297 ∧ rh < 4294967296 ∧ k + rh = 4294967296)
      (fun e σ => e = .exit 0 ∧ DV σ (cut d G) Y s u (L / 4294967296) (L % 4294967296) ∧ σ.F 15 = .p (.int .u64 (Q : Int))) (m := 4294967296 - u % (Y / 4294967296))
      ⟨_, _, ⟨by simp, by simp, by simp, by simp, by simp, by simp, by simp, rfl⟩, by simp -implicitDefEqProofs [-Int.natCast_ediv, -Int.natCast_emod, -Int.natCast_mul, -Int.natCast_add, w1], by simp -implicitDefEqProofs [-Int.natCast_ediv, -Int.natCast_emod, -Int.natCast_mul, -Int.natCast_add, w1, w2], BallQ.digit_start n.e hy1 hc1, b1, by omega, by omega⟩ ?_ ?_
    · rintro k σ ⟨qh, rh, ⟨f2, f8, f9, f10, f11, f13, f14, hg⟩, f15, f16, D, hq, hr, hk⟩
      have more : (4294967296 ≤ qh ∨ 4294967296 * rh + L / 4294967296 < qh * (Y % 4294967296)) → 0 < qh ∧ BallQ.Digit u (L / 4294967296) Y (Y / 4294967296) (Y % 4294967296) 4294967296 (qh - 1) (rh + Y / 4294967296) := by
        intro h
        have hm := BallQ.digit_more D n.e hY0 k3 hc1 h
        exact ⟨Nat.lt_of_le_of_lt (Nat.zero_le _) hm, BallQ.digit_step D hm⟩
      have e1 : IntKind.u64.wrap ((rh : Int) + ((Y / 4294967296 : Nat) : Int)) = ((rh + Y / 4294967296 : Nat) : Int) := by rw [wu64]; omega
      have e2 : 0 < qh → IntKind.u64.wrap ((qh : Int) - 1) = ((qh - 1 : Nat) : Int) := fun h => by rw [wu64]; omega
      have g1 := fun q : Nat => ge_iff (q := q) (n := 4294967296) (z := 4294967296) rfl
      by_cases hb : 4294967296 ≤ qh
      · obtain ⟨q0, D'⟩ := more (.inl hb)
        by_cases hf : 4294967296 ≤ rh + Y / 4294967296
        · have eq' := BallQ.digit_far D' n.e hY0 hd0 (by omega) hf
          simp -implicitDefEqProofs [-Int.natCast_ediv, -Int.natCast_emod, -Int.natCast_mul, -Int.natCast_add, DV_iff, f2, f8, f9, f10, f11, f13, f14, f15, f16, hg, g1, hb, e1, e2 q0, hf]
          rw [eq', ← eQ]
        · simp -implicitDefEqProofs [-Int.natCast_ediv, -Int.natCast_emod, -Int.natCast_mul, -Int.natCast_add, DV_iff, f2, f8, f9, f10, f11, f13, f14, f15, f16, hg, g1, hb, e1, e2 q0, hf]
          exact ⟨4294967296 - (rh + Y / 4294967296), by omega, qh - 1, rfl, rh + Y / 4294967296, rfl, D', by omega, by omega, by omega⟩
      · have ti := test_iff (q := qh) (rh := rh) (by omega) hd0 hr hc1
        by_cases ht : 4294967296 * rh + L / 4294967296 < qh * (Y % 4294967296)
        · obtain ⟨q0, D'⟩ := more (.inr ht)
          by_cases hf : 4294967296 ≤ rh + Y / 4294967296
          · have eq' := BallQ.digit_far D' n.e hY0 hd0 (by omega) hf
            simp -implicitDefEqProofs [-Int.natCast_ediv, -Int.natCast_emod, -Int.natCast_mul, -Int.natCast_add, DV_iff, f2, f8, f9, f10, f11, f13, f14, f15, f16, hg, g1, hb, e1, e2 q0, hf, ti, ht]
            rw [eq', ← eQ]
          · simp -implicitDefEqProofs [-Int.natCast_ediv, -Int.natCast_emod, -Int.natCast_mul, -Int.natCast_add, DV_iff, f2, f8, f9, f10, f11, f13, f14, f15, f16, hg, g1, hb, e1, e2 q0, hf, ti, ht]
            exact ⟨4294967296 - (rh + Y / 4294967296), by omega, qh - 1, rfl, rh + Y / 4294967296, rfl, D', by omega, by omega, by omega⟩
        · have eq' := BallQ.digit_end D n.e hY0 (by omega)
          simp -implicitDefEqProofs [-Int.natCast_ediv, -Int.natCast_emod, -Int.natCast_mul, -Int.natCast_add, DV_iff, f2, f8, f9, f10, f11, f13, f14, f15, f16, hg, g1, hb, ti, ht]
          rw [eq', ← eQ]
    · rintro e σ ⟨rfl, ⟨f2, f8, f9, f10, f11, f13, f14, hg⟩, f15⟩
      have b2 := BallQ.digit_bound n.e hR n.d0 (by omega) hy1
      have r2 : R % (Y / 4294967296) < Y / 4294967296 := Nat.mod_lt _ hy1
      have lt2 := lt_two hR hc0
      have R64 : R < 18446744073709551616 := Nat.lt_trans hR sN
      have v1 := quo_eq (R := R) (y := Y / 4294967296) R64
      have v2 := rem_eq (R := R) (y := Y / 4294967296) R64
      simp -implicitDefEqProofs [-Int.natCast_ediv, -Int.natCast_emod, -Int.natCast_mul, -Int.natCast_add, f2, f8, f9, f10, f11, f13, f14, f15, hg, nz2, rq, v1, v2]
      refine gwp_loopP (fun k σ => ∃ qh rh : Nat, DV σ (cut d G) Y s u (L / 4294967296) (L % 4294967296) ∧ σ.F 15 = .p (.int .u64 (Q : Int)) ∧ σ.F 17 = .p (.int .u64 (R : Int)) ∧ σ.F 18 = .p (.int .u64 (qh : Int)) ∧ σ.F 16 = .p (.int .u64 (rh : Int)) ∧
        BallQ.Digit R (L % 4294967296) Y (Y / 4294967296) (Y % 4294967296) 4294967296 qh rh ∧ qh ≤ 4294967297 ∧ rh < 4294967296 ∧ k + rh = 4294967296)
        (fun e σ => e = .exit 2 ∧ DV σ (cut d G) Y s u (L / 4294967296) (L % 4294967296) ∧ σ.F 15 = .p (.int .u64 (Q : Int)) ∧ σ.F 17 = .p (.int .u64 (R : Int)) ∧ σ.F 18 = .p (.int .u64 (((R * 4294967296 + L % 4294967296) / Y : Nat) : Int))) (m := 4294967296 - R % (Y / 4294967296))
        ⟨R / (Y / 4294967296), R % (Y / 4294967296), DV_iff.2 (by simp -implicitDefEqProofs [-Int.natCast_ediv, -Int.natCast_emod, -Int.natCast_mul, -Int.natCast_add, f2, f8, f9, f10, f11, f13, f14, hg]), by simp -implicitDefEqProofs [-Int.natCast_ediv, -Int.natCast_emod, -Int.natCast_mul, -Int.natCast_add, f15], by simp -implicitDefEqProofs [-Int.natCast_ediv, -Int.natCast_emod, -Int.natCast_mul, -Int.natCast_add, rq], by simp -implicitDefEqProofs [-Int.natCast_ediv, -Int.natCast_emod, -Int.natCast_mul, -Int.natCast_add, v1], by simp -implicitDefEqProofs [-Int.natCast_ediv, -Int.natCast_emod, -Int.natCast_mul, -Int.natCast_add, v1, v2], BallQ.digit_start n.e hy1 hc0, b2, by omega, by omega⟩ ?_ ?_
      · rintro k σ ⟨qh, rh, ⟨f2, f8, f9, f10, f11, f13, f14, hg⟩, f15, f17, f18, f16, D, hq, hr, hk⟩
        have more : (4294967296 ≤ qh ∨ 4294967296 * rh + L % 4294967296 < qh * (Y % 4294967296)) → 0 < qh ∧ BallQ.Digit R (L % 4294967296) Y (Y / 4294967296) (Y % 4294967296) 4294967296 (qh - 1) (rh + Y / 4294967296) := by
          intro h
          have hm := BallQ.digit_more D n.e hY0 hR hc0 h
          exact ⟨Nat.lt_of_le_of_lt (Nat.zero_le _) hm, BallQ.digit_step D hm⟩
        have e1 : IntKind.u64.wrap ((rh : Int) + ((Y / 4294967296 : Nat) : Int)) = ((rh + Y / 4294967296 : Nat) : Int) := by rw [wu64]; omega
        have e2 : 0 < qh → IntKind.u64.wrap ((qh : Int) - 1) = ((qh - 1 : Nat) : Int) := fun h => by rw [wu64]; omega
        have g1 := fun q : Nat => ge_iff (q := q) (n := 4294967296) (z := 4294967296) rfl
        by_cases hb : 4294967296 ≤ qh
        · obtain ⟨q0, D'⟩ := more (.inl hb)
          by_cases hf : 4294967296 ≤ rh + Y / 4294967296
          · have eq' := BallQ.digit_far D' n.e hY0 hd0 (by omega) hf
            simp -implicitDefEqProofs [-Int.natCast_ediv, -Int.natCast_emod, -Int.natCast_mul, -Int.natCast_add, DV_iff, f2, f8, f9, f10, f11, f13, f14, f15, f16, f17, f18, hg, g1, hb, e1, e2 q0, hf]
            rw [eq']
          · simp -implicitDefEqProofs [-Int.natCast_ediv, -Int.natCast_emod, -Int.natCast_mul, -Int.natCast_add, DV_iff, f2, f8, f9, f10, f11, f13, f14, f15, f16, f17, f18, hg, g1, hb, e1, e2 q0, hf]
            exact ⟨4294967296 - (rh + Y / 4294967296), by omega, qh - 1, rfl, rh + Y / 4294967296, rfl, D', by omega, by omega, by omega⟩
        · have ti := test_iff (q := qh) (rh := rh) (by omega) hd0 hr hc0
          by_cases ht : 4294967296 * rh + L % 4294967296 < qh * (Y % 4294967296)
          · obtain ⟨q0, D'⟩ := more (.inr ht)
            by_cases hf : 4294967296 ≤ rh + Y / 4294967296
            · have eq' := BallQ.digit_far D' n.e hY0 hd0 (by omega) hf
              simp -implicitDefEqProofs [-Int.natCast_ediv, -Int.natCast_emod, -Int.natCast_mul, -Int.natCast_add, DV_iff, f2, f8, f9, f10, f11, f13, f14, f15, f16, f17, f18, hg, g1, hb, e1, e2 q0, hf, ti, ht]
              rw [eq']
            · simp -implicitDefEqProofs [-Int.natCast_ediv, -Int.natCast_emod, -Int.natCast_mul, -Int.natCast_add, DV_iff, f2, f8, f9, f10, f11, f13, f14, f15, f16, f17, f18, hg, g1, hb, e1, e2 q0, hf, ti, ht]
              exact ⟨4294967296 - (rh + Y / 4294967296), by omega, qh - 1, rfl, rh + Y / 4294967296, rfl, D', by omega, by omega, by omega⟩
          · have eq' := BallQ.digit_end D n.e hY0 (by omega)
            simp -implicitDefEqProofs [-Int.natCast_ediv, -Int.natCast_emod, -Int.natCast_mul, -Int.natCast_add, DV_iff, f2, f8, f9, f10, f11, f13, f14, f15, f16, f17, f18, hg, g1, hb, ti, ht]
            rw [eq']
      · rintro e σ ⟨rfl, ⟨f2, f8, f9, f10, f11, f13, f14, hg⟩, f15, f17, f18⟩
        have rq2 := rest_eq (u := R) (c := L % 4294967296) (y := Y) rfl hY0 n.hi
        have sr := shr_eq ((R * 4294967296 + L % 4294967296) % Y) s s64
        have wq := wq_eq hQ lt2
        simp -implicitDefEqProofs [-Int.natCast_ediv, -Int.natCast_emod, -Int.natCast_mul, -Int.natCast_add, f2, f8, f9, f10, f11, f13, f14, f15, f17, f18, hg, rq2, sr, wq]
theorem rem64_ev (hi lo y : Nat) (h0 : 0 < y) (hy : y < 18446744073709551616) (hl : lo < 18446744073709551616) (d : Nat) (G : Heap) : Tel Try.prog TB d 90 [.p (.int .u64 (hi : Int)), .p (.int .u64 (lo : Int)), .p (.int .u64 (y : Int))] G
    (.p (.int .u64 (((hi * 18446744073709551616 + lo) % y : Nat) : Int))) G := by
  have e : Int.tmod (hi : Int) (y : Int) = ((hi % y : Nat) : Int) := by rw [Int.tmod_eq_emod_of_nonneg (by omega)]; rfl
  have y0 : ¬ (y = 0) := by omega
  have em : (hi % y * 18446744073709551616 + lo) % y = (hi * 18446744073709551616 + lo) % y := by
    rw [Nat.add_mod, Nat.mul_mod, Nat.mod_mod, ← Nat.mul_mod, ← Nat.add_mod]
  refine Tel.intro mix Try.func90 rfl (Nat.le_of_ble_eq_true rfl) {} (by kernel_rfl) (by kernel_rfl) ?_
  simp -implicitDefEqProofs [-Int.natCast_ediv, -Int.natCast_emod, -Int.natCast_mul, -Int.natCast_add, Try.results90, e, y0]
  refine callp (div64_ev (hi % y) lo y (Nat.mod_lt _ h0) hy hl _ _) ?_
  simp -implicitDefEqProofs [-Int.natCast_ediv, -Int.natCast_emod, -Int.natCast_mul, -Int.natCast_add, Try.results90, em]
end Go.E
end
section
set_option linter.all false
set_option maxRecDepth 100000
namespace Go.E
open Go Go.Proofs Go.Eng
open BallQ (In64 Right q out fits put)
variable {TB : Nat → Option Obj}
theorem sum_ev (a b c e v : Int) (ha : In64 a) (hb : In64 b) (hc : In64 c) (he : In64 e) (hv : v = a * b + c * e) :
    ∃ m : Bool, (v ≠ 0 → m = decide (v < 0)) ∧ ∀ d G, Tel Try.prog TB d 89 [.p (.int .i64 a), .p (.int .i64 b), .p (.int .i64 c), .p (.int .i64 e)] G
      (.tup [.p (.int .u64 ((v.natAbs / 18446744073709551616 : Nat) : Int)), .p (.int .u64 ((v.natAbs % 18446744073709551616 : Nat) : Int)), .p (.bool m)]) G := by
  have ka := natAbs_le ha
  have kb := natAbs_le hb
  have kc := natAbs_le hc
  have kd := natAbs_le he
  have hP : a.natAbs * b.natAbs ≤ 9223372036854775808 * 9223372036854775808 := Nat.mul_le_mul ka kb
  have hQ : c.natAbs * e.natAbs ≤ 9223372036854775808 * 9223372036854775808 := Nat.mul_le_mul kc kd
  have m1 := fun d G => mul64_ev (TB := TB) a.natAbs b.natAbs (by omega) (by omega) d G
  have m2 := fun d G => mul64_ev (TB := TB) c.natAbs e.natAbs (by omega) (by omega) d G
  have z1 := fun d G => size_ev (TB := TB) a ha d G
  have z2 := fun d G => size_ev (TB := TB) b hb d G
  have z3 := fun d G => size_ev (TB := TB) c hc d G
  have z4 := fun d G => size_ev (TB := TB) e he d G
  have s1 := signed_mul a b
  have s2 := signed_mul c e
  rw [s1, s2] at hv
  have w1 : (!(decide (a < 0) == decide (b < 0))) = (decide (a < 0) != decide (b < 0)) := rfl
  have w2 : (!(decide (c < 0) == decide (e < 0))) = (decide (c < 0) != decide (e < 0)) := rfl
  generalize hx : (decide (a < 0) != decide (b < 0)) = x at *
  generalize hy : (decide (c < 0) != decide (e < 0)) = y at *
  generalize a.natAbs = an at *
  generalize b.natAbs = bn at *
  generalize c.natAbs = cn at *
  generalize e.natAbs = en at *
  generalize an * bn = P at *
  generalize cn * en = Q at *
  by_cases hxy : x = y
  · subst hxy
    refine ⟨x, ?_, fun d G => ?_⟩
    · intro h0
      subst hv
      cases x
      · simp at h0 ⊢; omega
      · simp at h0 ⊢; omega
    · have hvn : v.natAbs = P + Q := by subst hv; cases x <;> simp <;> omega
      have e1 : (P / 18446744073709551616 + Q / 18446744073709551616 + (P % 18446744073709551616 + Q % 18446744073709551616 + 0) / 18446744073709551616) % 18446744073709551616 = (P + Q) / 18446744073709551616 := by omega
      have e2 : (P % 18446744073709551616 + Q % 18446744073709551616) % 18446744073709551616 = (P + Q) % 18446744073709551616 := by omega
      have e3 : (P % 18446744073709551616 + Q % 18446744073709551616 + 0) / 18446744073709551616 = (P % 18446744073709551616 + Q % 18446744073709551616) / 18446744073709551616 := rfl
      rw [hvn, ← e1, ← e2]
      refine Tel.intro mix Try.func89 rfl (Nat.le_of_ble_eq_true rfl) {} (by kernel_rfl) (by kernel_rfl) ?_
      simp -implicitDefEqProofs [-Int.natCast_ediv, -Int.natCast_emod, -Int.natCast_mul, -Int.natCast_add, Try.results89, w1, w2]
      refine callp (z1 _ _) ?_
      simp -implicitDefEqProofs [-Int.natCast_ediv, -Int.natCast_emod, -Int.natCast_mul, -Int.natCast_add, Try.results89, w1, w2]
      refine callp (z2 _ _) ?_
      simp -implicitDefEqProofs [-Int.natCast_ediv, -Int.natCast_emod, -Int.natCast_mul, -Int.natCast_add, Try.results89, w1, w2]
      refine callp (m1 _ _) ?_
      simp -implicitDefEqProofs [-Int.natCast_ediv, -Int.natCast_emod, -Int.natCast_mul, -Int.natCast_add, Try.results89, w1, w2]
      refine callp (z3 _ _) ?_
      simp -implicitDefEqProofs [-Int.natCast_ediv, -Int.natCast_emod, -Int.natCast_mul, -Int.natCast_add, Try.results89, w1, w2]
      refine callp (z4 _ _) ?_
      simp -implicitDefEqProofs [-Int.natCast_ediv, -Int.natCast_emod, -Int.natCast_mul, -Int.natCast_add, Try.results89, w1, w2]
      refine callp (m2 _ _) ?_
      simp -implicitDefEqProofs [-Int.natCast_ediv, -Int.natCast_emod, -Int.natCast_mul, -Int.natCast_add, Try.results89, w1, w2]
      refine callp (add64_ev (P % 18446744073709551616) (Q % 18446744073709551616) 0 (by omega) _ _) ?_
      simp -implicitDefEqProofs [-Int.natCast_ediv, -Int.natCast_emod, -Int.natCast_mul, -Int.natCast_add, Try.results89, w1, w2]
      refine callp (add64_ev (P / 18446744073709551616) (Q / 18446744073709551616) ((P % 18446744073709551616 + Q % 18446744073709551616 + 0) / 18446744073709551616) (by omega) _ _) ?_
      simp -implicitDefEqProofs [-Int.natCast_ediv, -Int.natCast_emod, -Int.natCast_mul, -Int.natCast_add, Try.results89, w1, w2]
  · have hyx : y = !x := by cases x <;> cases y <;> simp_all
    have hvn : v.natAbs = if P < Q then Q - P else P - Q := by
      subst hv hyx; cases x <;> simp <;> split <;> omega
    have ne : (x == y) = false := by rw [hyx]; cases x <;> rfl
    refine ⟨if P < Q then y else x, ?_, fun d G => ?_⟩
    · intro h0
      subst hv hyx
      by_cases h : P < Q
      · rw [if_pos h]; cases x <;> simp at h0 ⊢ <;> omega
      · rw [if_neg h]; cases x <;> simp at h0 ⊢ <;> omega
    · rw [hvn]
      clear hvn hv s1 s2 ha hb hc he ka kb kc kd
      by_cases g1 : P / 18446744073709551616 < Q / 18446744073709551616
      · have f1 : (((P / 18446744073709551616 : Nat) : Int) < ((Q / 18446744073709551616 : Nat) : Int)) = True := by simp only [eq_iff_iff, iff_true]; omega
        have hlt : P < Q := by omega
        rw [if_pos hlt, if_pos hlt]
        have e1 : (Q / 18446744073709551616 + 18446744073709551616 - P / 18446744073709551616 - (if Q % 18446744073709551616 < P % 18446744073709551616 + 0 then 1 else 0)) % 18446744073709551616 = (Q - P) / 18446744073709551616 := by split <;> omega
        have e2 : (Q % 18446744073709551616 + 18446744073709551616 - P % 18446744073709551616 - 0) % 18446744073709551616 = (Q - P) % 18446744073709551616 := by omega
        rw [← e1, ← e2]
        have b1 : (if Q % 18446744073709551616 < P % 18446744073709551616 + 0 then 1 else 0) ≤ 1 := by split <;> omega
        generalize hb0 : (if Q % 18446744073709551616 < P % 18446744073709551616 + 0 then 1 else 0) = b0 at *
        have s0 := fun d G => sub64_ev (TB := TB) (Q % 18446744073709551616) (P % 18446744073709551616) 0 (by omega) d G
        rw [hb0] at s0
        have s1 := fun d G => sub64_ev (TB := TB) (Q / 18446744073709551616) (P / 18446744073709551616) b0 b1 d G
        refine Tel.intro mix Try.func89 rfl (Nat.le_of_ble_eq_true rfl) {} (by kernel_rfl) (by kernel_rfl) ?_
        simp -implicitDefEqProofs [-Int.natCast_ediv, -Int.natCast_emod, -Int.natCast_mul, -Int.natCast_add, Try.results89, w1, w2, ne, f1]
        refine callp (z1 _ _) ?_
        simp -implicitDefEqProofs [-Int.natCast_ediv, -Int.natCast_emod, -Int.natCast_mul, -Int.natCast_add, Try.results89, w1, w2, ne, f1]
        refine callp (z2 _ _) ?_
        simp -implicitDefEqProofs [-Int.natCast_ediv, -Int.natCast_emod, -Int.natCast_mul, -Int.natCast_add, Try.results89, w1, w2, ne, f1]
        refine callp (m1 _ _) ?_
        simp -implicitDefEqProofs [-Int.natCast_ediv, -Int.natCast_emod, -Int.natCast_mul, -Int.natCast_add, Try.results89, w1, w2, ne, f1]
        refine callp (z3 _ _) ?_
        simp -implicitDefEqProofs [-Int.natCast_ediv, -Int.natCast_emod, -Int.natCast_mul, -Int.natCast_add, Try.results89, w1, w2, ne, f1]
        refine callp (z4 _ _) ?_
        simp -implicitDefEqProofs [-Int.natCast_ediv, -Int.natCast_emod, -Int.natCast_mul, -Int.natCast_add, Try.results89, w1, w2, ne, f1]
        refine callp (m2 _ _) ?_
        simp -implicitDefEqProofs [-Int.natCast_ediv, -Int.natCast_emod, -Int.natCast_mul, -Int.natCast_add, Try.results89, w1, w2, ne, f1]
        refine callp (s0 _ _) ?_
        simp -implicitDefEqProofs [-Int.natCast_ediv, -Int.natCast_emod, -Int.natCast_mul, -Int.natCast_add, Try.results89, w1, w2, ne, f1]
        refine callp (s1 _ _) ?_
        simp -implicitDefEqProofs [-Int.natCast_ediv, -Int.natCast_emod, -Int.natCast_mul, -Int.natCast_add, Try.results89, w1, w2, ne, f1]
      · have f1 : (((P / 18446744073709551616 : Nat) : Int) < ((Q / 18446744073709551616 : Nat) : Int)) = False := by simp only [eq_iff_iff, iff_false]; omega
        by_cases g2 : P / 18446744073709551616 = Q / 18446744073709551616
        · have f2 : (((P / 18446744073709551616 : Nat) : Int) = ((Q / 18446744073709551616 : Nat) : Int)) = True := by simp only [eq_iff_iff, iff_true]; omega
          by_cases g3 : P % 18446744073709551616 < Q % 18446744073709551616
          · have f3 : (((P % 18446744073709551616 : Nat) : Int) < ((Q % 18446744073709551616 : Nat) : Int)) = True := by simp only [eq_iff_iff, iff_true]; omega
            have hlt : P < Q := by omega
            rw [if_pos hlt, if_pos hlt]
            have e1 : (Q / 18446744073709551616 + 18446744073709551616 - P / 18446744073709551616 - (if Q % 18446744073709551616 < P % 18446744073709551616 + 0 then 1 else 0)) % 18446744073709551616 = (Q - P) / 18446744073709551616 := by split <;> omega
            have e2 : (Q % 18446744073709551616 + 18446744073709551616 - P % 18446744073709551616 - 0) % 18446744073709551616 = (Q - P) % 18446744073709551616 := by omega
            rw [← e1, ← e2]
            have b1 : (if Q % 18446744073709551616 < P % 18446744073709551616 + 0 then 1 else 0) ≤ 1 := by split <;> omega
            generalize hb0 : (if Q % 18446744073709551616 < P % 18446744073709551616 + 0 then 1 else 0) = b0 at *
            have s0 := fun d G => sub64_ev (TB := TB) (Q % 18446744073709551616) (P % 18446744073709551616) 0 (by omega) d G
            rw [hb0] at s0
            have s1 := fun d G => sub64_ev (TB := TB) (Q / 18446744073709551616) (P / 18446744073709551616) b0 b1 d G
            refine Tel.intro mix Try.func89 rfl (Nat.le_of_ble_eq_true rfl) {} (by kernel_rfl) (by kernel_rfl) ?_
            simp -implicitDefEqProofs [-Int.natCast_ediv, -Int.natCast_emod, -Int.natCast_mul, -Int.natCast_add, Try.results89, w1, w2, ne, f1, f2, f3]
            refine callp (z1 _ _) ?_
            simp -implicitDefEqProofs [-Int.natCast_ediv, -Int.natCast_emod, -Int.natCast_mul, -Int.natCast_add, Try.results89, w1, w2, ne, f1, f2, f3]
            refine callp (z2 _ _) ?_
            simp -implicitDefEqProofs [-Int.natCast_ediv, -Int.natCast_emod, -Int.natCast_mul, -Int.natCast_add, Try.results89, w1, w2, ne, f1, f2, f3]
            refine callp (m1 _ _) ?_
            simp -implicitDefEqProofs [-Int.natCast_ediv, -Int.natCast_emod, -Int.natCast_mul, -Int.natCast_add, Try.results89, w1, w2, ne, f1, f2, f3]
            refine callp (z3 _ _) ?_
            simp -implicitDefEqProofs [-Int.natCast_ediv, -Int.natCast_emod, -Int.natCast_mul, -Int.natCast_add, Try.results89, w1, w2, ne, f1, f2, f3]
            refine callp (z4 _ _) ?_
            simp -implicitDefEqProofs [-Int.natCast_ediv, -Int.natCast_emod, -Int.natCast_mul, -Int.natCast_add, Try.results89, w1, w2, ne, f1, f2, f3]
            refine callp (m2 _ _) ?_
            simp -implicitDefEqProofs [-Int.natCast_ediv, -Int.natCast_emod, -Int.natCast_mul, -Int.natCast_add, Try.results89, w1, w2, ne, f1, f2, f3]
            refine callp (s0 _ _) ?_
            simp -implicitDefEqProofs [-Int.natCast_ediv, -Int.natCast_emod, -Int.natCast_mul, -Int.natCast_add, Try.results89, w1, w2, ne, f1, f2, f3]
            refine callp (s1 _ _) ?_
            simp -implicitDefEqProofs [-Int.natCast_ediv, -Int.natCast_emod, -Int.natCast_mul, -Int.natCast_add, Try.results89, w1, w2, ne, f1, f2, f3]
          · have f3 : (((P % 18446744073709551616 : Nat) : Int) < ((Q % 18446744073709551616 : Nat) : Int)) = False := by simp only [eq_iff_iff, iff_false]; omega
            have hlt : ¬ (P < Q) := by omega
            rw [if_neg hlt, if_neg hlt]
            have e1 : (P / 18446744073709551616 + 18446744073709551616 - Q / 18446744073709551616 - (if P % 18446744073709551616 < Q % 18446744073709551616 + 0 then 1 else 0)) % 18446744073709551616 = (P - Q) / 18446744073709551616 := by split <;> omega
            have e2 : (P % 18446744073709551616 + 18446744073709551616 - Q % 18446744073709551616 - 0) % 18446744073709551616 = (P - Q) % 18446744073709551616 := by omega
            rw [← e1, ← e2]
            have b1 : (if P % 18446744073709551616 < Q % 18446744073709551616 + 0 then 1 else 0) ≤ 1 := by split <;> omega
            generalize hb0 : (if P % 18446744073709551616 < Q % 18446744073709551616 + 0 then 1 else 0) = b0 at *
            have s0 := fun d G => sub64_ev (TB := TB) (P % 18446744073709551616) (Q % 18446744073709551616) 0 (by omega) d G
            rw [hb0] at s0
            have s1 := fun d G => sub64_ev (TB := TB) (P / 18446744073709551616) (Q / 18446744073709551616) b0 b1 d G
            refine Tel.intro mix Try.func89 rfl (Nat.le_of_ble_eq_true rfl) {} (by kernel_rfl) (by kernel_rfl) ?_
            simp -implicitDefEqProofs [-Int.natCast_ediv, -Int.natCast_emod, -Int.natCast_mul, -Int.natCast_add, Try.results89, w1, w2, ne, f1, f2, f3]
            refine callp (z1 _ _) ?_
            simp -implicitDefEqProofs [-Int.natCast_ediv, -Int.natCast_emod, -Int.natCast_mul, -Int.natCast_add, Try.results89, w1, w2, ne, f1, f2, f3]
            refine callp (z2 _ _) ?_
            simp -implicitDefEqProofs [-Int.natCast_ediv, -Int.natCast_emod, -Int.natCast_mul, -Int.natCast_add, Try.results89, w1, w2, ne, f1, f2, f3]
            refine callp (m1 _ _) ?_
            simp -implicitDefEqProofs [-Int.natCast_ediv, -Int.natCast_emod, -Int.natCast_mul, -Int.natCast_add, Try.results89, w1, w2, ne, f1, f2, f3]
            refine callp (z3 _ _) ?_
            simp -implicitDefEqProofs [-Int.natCast_ediv, -Int.natCast_emod, -Int.natCast_mul, -Int.natCast_add, Try.results89, w1, w2, ne, f1, f2, f3]
            refine callp (z4 _ _) ?_
            simp -implicitDefEqProofs [-Int.natCast_ediv, -Int.natCast_emod, -Int.natCast_mul, -Int.natCast_add, Try.results89, w1, w2, ne, f1, f2, f3]
            refine callp (m2 _ _) ?_
            simp -implicitDefEqProofs [-Int.natCast_ediv, -Int.natCast_emod, -Int.natCast_mul, -Int.natCast_add, Try.results89, w1, w2, ne, f1, f2, f3]
            refine callp (s0 _ _) ?_
            simp -implicitDefEqProofs [-Int.natCast_ediv, -Int.natCast_emod, -Int.natCast_mul, -Int.natCast_add, Try.results89, w1, w2, ne, f1, f2, f3]
            refine callp (s1 _ _) ?_
            simp -implicitDefEqProofs [-Int.natCast_ediv, -Int.natCast_emod, -Int.natCast_mul, -Int.natCast_add, Try.results89, w1, w2, ne, f1, f2, f3]
        · have f2 : (((P / 18446744073709551616 : Nat) : Int) = ((Q / 18446744073709551616 : Nat) : Int)) = False := by simp only [eq_iff_iff, iff_false]; omega
          have hlt : ¬ (P < Q) := by omega
          rw [if_neg hlt, if_neg hlt]
          have e1 : (P / 18446744073709551616 + 18446744073709551616 - Q / 18446744073709551616 - (if P % 18446744073709551616 < Q % 18446744073709551616 + 0 then 1 else 0)) % 18446744073709551616 = (P - Q) / 18446744073709551616 := by split <;> omega
          have e2 : (P % 18446744073709551616 + 18446744073709551616 - Q % 18446744073709551616 - 0) % 18446744073709551616 = (P - Q) % 18446744073709551616 := by omega
          rw [← e1, ← e2]
          have b1 : (if P % 18446744073709551616 < Q % 18446744073709551616 + 0 then 1 else 0) ≤ 1 := by split <;> omega
          generalize hb0 : (if P % 18446744073709551616 < Q % 18446744073709551616 + 0 then 1 else 0) = b0 at *
          have s0 := fun d G => sub64_ev (TB := TB) (P % 18446744073709551616) (Q % 18446744073709551616) 0 (by omega) d G
          rw [hb0] at s0
          have s1 := fun d G => sub64_ev (TB := TB) (P / 18446744073709551616) (Q / 18446744073709551616) b0 b1 d G
          refine Tel.intro mix Try.func89 rfl (Nat.le_of_ble_eq_true rfl) {} (by kernel_rfl) (by kernel_rfl) ?_
          simp -implicitDefEqProofs [-Int.natCast_ediv, -Int.natCast_emod, -Int.natCast_mul, -Int.natCast_add, Try.results89, w1, w2, ne, f1, f2]
          refine callp (z1 _ _) ?_
          simp -implicitDefEqProofs [-Int.natCast_ediv, -Int.natCast_emod, -Int.natCast_mul, -Int.natCast_add, Try.results89, w1, w2, ne, f1, f2]
          refine callp (z2 _ _) ?_
          simp -implicitDefEqProofs [-Int.natCast_ediv, -Int.natCast_emod, -Int.natCast_mul, -Int.natCast_add, Try.results89, w1, w2, ne, f1, f2]
          refine callp (m1 _ _) ?_
          simp -implicitDefEqProofs [-Int.natCast_ediv, -Int.natCast_emod, -Int.natCast_mul, -Int.natCast_add, Try.results89, w1, w2, ne, f1, f2]
          refine callp (z3 _ _) ?_
          simp -implicitDefEqProofs [-Int.natCast_ediv, -Int.natCast_emod, -Int.natCast_mul, -Int.natCast_add, Try.results89, w1, w2, ne, f1, f2]
          refine callp (z4 _ _) ?_
          simp -implicitDefEqProofs [-Int.natCast_ediv, -Int.natCast_emod, -Int.natCast_mul, -Int.natCast_add, Try.results89, w1, w2, ne, f1, f2]
          refine callp (m2 _ _) ?_
          simp -implicitDefEqProofs [-Int.natCast_ediv, -Int.natCast_emod, -Int.natCast_mul, -Int.natCast_add, Try.results89, w1, w2, ne, f1, f2]
          refine callp (s0 _ _) ?_
          simp -implicitDefEqProofs [-Int.natCast_ediv, -Int.natCast_emod, -Int.natCast_mul, -Int.natCast_add, Try.results89, w1, w2, ne, f1, f2]
          refine callp (s1 _ _) ?_
          simp -implicitDefEqProofs [-Int.natCast_ediv, -Int.natCast_emod, -Int.natCast_mul, -Int.natCast_add, Try.results89, w1, w2, ne, f1, f2]
end Go.E
end
section
set_option linter.all false
set_option maxRecDepth 100000
namespace Go.E
open Go Go.Proofs Go.Eng
open BallQ (In64 Right q out fits put)
variable {TB : Nat → Option Obj}
def rG (x : Int × Int × Int) : GV := .tup [.agg [.p (.int .i64 x.1), .p (.int .i64 x.2.1)], .p (.int .i64 x.2.2)]
@[simp] theorem adopt_rG {d t : Nat} {x : Int × Int × Int} : adopt d t (rG x) [] = (rG x, []) := by unfold rG; simp
theorem i64_quo {X g : Nat} (hX : X < 9223372036854775808) : IntKind.i64.wrap ((X : Int) / (g : Int)) = ((X / g : Nat) : Int) := by
  have hd := Nat.div_le_self X g
  rw [← Int.natCast_ediv]
  generalize X / g = y at *
  rw [wi64]; omega
theorem i64_nat {X : Nat} (hX : X < 9223372036854775808) : IntKind.i64.wrap (X : Int) = (X : Int) := by
  rw [wi64]; omega
theorem size_nat (A : Nat) (hA : A < 9223372036854775808) (d : Nat) (G : Heap) : Tel Try.prog TB d 80 [.p (.int .i64 (A : Int))] G (.p (.int .u64 (A : Int))) G := by
  have := size_ev (TB := TB) (A : Int) (in64_nat hA) d G
  rwa [Int.natAbs_natCast] at this
theorem add_run {aN bN : Int} {A B g A' B' : Nat} (h1 : In64 aN) (h3 : In64 bN) (hA : A < 9223372036854775808) (hB : B < 9223372036854775808) (hg : g = A.gcd B) (hg0 : 0 < g) (hgA : g < 9223372036854775808) (eA : A' = A / g) (eB : B' = B / g)
    {v t : Int} {p D : Nat} (hv : v = aN * (B' : Int) + bN * (A' : Int)) (hp : p = g.gcd v.natAbs) (ht : v = (p : Int) * t) (hD : D = A' * (B / p)) (hDne : D ≠ 0) (hcop : t.natAbs.gcd D = 1) (hra : Right aN A) (hrb : Right bN B) (d : Nat) (G : Heap) :
    Tel Try.prog TB d 58 [.agg [.p (.int .i64 aN), .p (.int .i64 (A : Int))], .agg [.p (.int .i64 bN), .p (.int .i64 (B : Int))]] G (rG (out (mkRat t D))) G := by
  have hp0 : 0 < p := by rw [hp]; exact Nat.gcd_pos_of_pos_left _ hg0
  have hpg : p ≤ g := by rw [hp]; exact Nat.gcd_le_left _ hg0
  have dA : A' < 9223372036854775808 := by rw [eA]; exact Nat.lt_of_le_of_lt (Nat.div_le_self _ _) hA
  have dB : B' < 9223372036854775808 := by rw [eB]; exact Nat.lt_of_le_of_lt (Nat.div_le_self _ _) hB
  have dP : B / p < 9223372036854775808 := Nat.lt_of_le_of_lt (Nat.div_le_self _ _) hB
  obtain ⟨m, hm, hs⟩ := sum_ev (TB := TB) aN (B' : Int) bN (A' : Int) v h1 (in64_nat dB) h3 (in64_nat dA) hv
  have hvb : v.natAbs < 340282366920938463463374607431768211456 := by rw [hv]; exact sum_bound (prod_bound h1 dB) (prod_bound h3 dA)
  obtain ⟨ewh, hl1, hl2⟩ := nat_split _ hvb
  have zA := fun d G => size_nat (TB := TB) A hA d G
  have zB := fun d G => size_nat (TB := TB) B hB d G
  have cAB := fun d G => common_ev (TB := TB) A B d G
  rw [← hg] at cAB
  have rA := fun d G => right_ev (TB := TB) aN (A : Int) h1 (in64_nat hA) d G
  have rB := fun d G => right_ev (TB := TB) bN (B : Int) h3 (in64_nat hB) d G
  rw [decide_eq_true hra] at rA
  rw [decide_eq_true hrb] at rB
  have ew : IntKind.i64.wrap (g : Int) = (g : Int) := i64_nat hgA
  have tA : IntKind.i64.wrap ((A : Int) / (g : Int)) = (A' : Int) := by rw [i64_quo hA, ← eA]
  have tB : IntKind.i64.wrap ((B : Int) / (g : Int)) = (B' : Int) := by rw [i64_quo hB, ← eB]
  have uA : IntKind.u64.wrap ((A : Int) / (g : Int)) = (A' : Int) := by rw [quo_eq (lt64 hA), ← eA]
  have uB : IntKind.u64.wrap ((B : Int) / (p : Int)) = ((B / p : Nat) : Int) := quo_eq (lt64 hB)
  have g0 : ¬ (g = 0) := Nat.ne_of_gt hg0
  have p0 : ¬ (p = 0) := Nat.ne_of_gt hp0
  have oz : (orI .u64 ((v.natAbs / 18446744073709551616 : Nat) : Int) ((v.natAbs % 18446744073709551616 : Nat) : Int) = 0) = (v = 0) := by
    refine propext ((or_zero hl1 hl2).trans ⟨fun h => ?_, fun h => by rw [h]; exact ⟨rfl, rfl⟩⟩)
    have : v.natAbs = 0 := by rw [← ewh, h.1, h.2]
    exact Int.natAbs_eq_zero.1 this
  have hrem := fun d G => rem64_ev (TB := TB) (v.natAbs / 18446744073709551616) (v.natAbs % 18446744073709551616) g hg0 (lt64 hgA) hl2 d G
  rw [ewh] at hrem
  have c2 := fun d G => common_ev (TB := TB) g (v.natAbs % g) d G
  have eg : g.gcd (v.natAbs % g) = p := by rw [Nat.gcd_comm, ← Nat.gcd_rec, hp]
  rw [eg] at c2
  obtain ⟨f1, f2, f3⟩ := add_fin (D := D) hp0 ht m
  have hprod := fun d G => product_ev (TB := TB) A' (B / p) (lt64 dA) (lt64 dP) d G
  rw [← hD] at hprod
  have hdiv : v.natAbs / 18446744073709551616 < p → ∀ d G, Tel Try.prog TB d 91 [.p (.int .u64 ((v.natAbs / 18446744073709551616 : Nat) : Int)), .p (.int .u64 ((v.natAbs % 18446744073709551616 : Nat) : Int)), .p (.int .u64 (p : Int))] G
    (.tup [.p (.int .u64 (t.natAbs : Int)), .p (.int .u64 ((v.natAbs % p : Nat) : Int))]) G := fun hh d G => by
      have := div64_ev (TB := TB) (v.natAbs / 18446744073709551616) (v.natAbs % 18446744073709551616) p hh (Nat.lt_of_le_of_lt hpg (lt64 hgA)) hl2 d G
      rwa [ewh, f3] at this
  have hz0 : v = 0 → mkRat t D = 0 := fun hz => by
    have t0 : t = 0 := by
      rcases Int.mul_eq_zero.1 (ht.symm.trans hz) with h | h
      · exact absurd h (pos_ne hp0)
      · exact h
    rw [t0, Rat.zero_mkRat]
  have hcp : v ≠ 0 → out (mkRat t D) = put t.natAbs D m := fun hz => BallQ.out_cop t D hDne hcop m (fun _ => (hm hz).trans (sign_of hp0 ht))
  have hput := fun h1 h2 d G => put_ev (TB := TB) t.natAbs D m h1 h2 d G
  have g1 := fun q n : Nat => ge_iff (q := q) (n := n) (z := (n : Int)) rfl
  generalize hH : v.natAbs / 18446744073709551616 = H at *
  generalize hL : v.natAbs % 18446744073709551616 = L at *
  generalize v.natAbs % g = rg at *
  generalize v.natAbs % p = rp at *
  generalize B / p = Bp at *
  clear hv ht hD eA eB hp hg hra hrb hvb ewh hl1 hl2 f3 eg hH hL
  refine Tel.intro mix Try.func58 rfl (Nat.le_of_ble_eq_true rfl) {} (by kernel_rfl) (by kernel_rfl) ?_
  simp -implicitDefEqProofs [-Int.natCast_ediv, -Int.natCast_emod, -Int.natCast_mul, -Int.natCast_add, Try.results58]
  refine callp (rA _ _) ?_
  simp -implicitDefEqProofs [-Int.natCast_ediv, -Int.natCast_emod, -Int.natCast_mul, -Int.natCast_add, Try.results58]
  refine callp (rB _ _) ?_
  simp -implicitDefEqProofs [-Int.natCast_ediv, -Int.natCast_emod, -Int.natCast_mul, -Int.natCast_add, Try.results58]
  refine callp (zA _ _) ?_
  simp -implicitDefEqProofs [-Int.natCast_ediv, -Int.natCast_emod, -Int.natCast_mul, -Int.natCast_add, Try.results58]
  refine callp (zB _ _) ?_
  simp -implicitDefEqProofs [-Int.natCast_ediv, -Int.natCast_emod, -Int.natCast_mul, -Int.natCast_add, Try.results58]
  refine callp (cAB _ _) ?_
  simp -implicitDefEqProofs [-Int.natCast_ediv, -Int.natCast_emod, -Int.natCast_mul, -Int.natCast_add, Try.results58, ew, g0, tA, tB]
  refine callp (hs _ _) ?_
  by_cases hz : v = 0
  · rw [hz0 hz, out_zero]
    simp -implicitDefEqProofs [-Int.natCast_ediv, -Int.natCast_emod, -Int.natCast_mul, -Int.natCast_add, Try.results58, oz, hz, rG]
  · rw [hcp hz]
    simp -implicitDefEqProofs [-Int.natCast_ediv, -Int.natCast_emod, -Int.natCast_mul, -Int.natCast_add, Try.results58, oz, hz]
    refine callp (hrem _ _) ?_
    simp -implicitDefEqProofs [-Int.natCast_ediv, -Int.natCast_emod, -Int.natCast_mul, -Int.natCast_add, Try.results58]
    refine callp (c2 _ _) ?_
    by_cases hh : H < p
    · have hge : ¬ (p ≤ H) := Nat.not_le.2 hh
      simp -implicitDefEqProofs [-Int.natCast_ediv, -Int.natCast_emod, -Int.natCast_mul, -Int.natCast_add, Try.results58, hge]
      refine callp (hdiv hh _ _) ?_
      simp -implicitDefEqProofs [-Int.natCast_ediv, -Int.natCast_emod, -Int.natCast_mul, -Int.natCast_add, Try.results58, p0, g0]
      refine callp (zA _ _) ?_
      simp -implicitDefEqProofs [-Int.natCast_ediv, -Int.natCast_emod, -Int.natCast_mul, -Int.natCast_add, Try.results58, p0, g0, uA]
      refine callp (zB _ _) ?_
      simp -implicitDefEqProofs [-Int.natCast_ediv, -Int.natCast_emod, -Int.natCast_mul, -Int.natCast_add, Try.results58, p0, g0, uA, uB]
      refine callp (hprod _ _) ?_
      by_cases hDl : D < 18446744073709551616
      · rw [Nat.mod_eq_of_lt hDl]
        simp -implicitDefEqProofs [-Int.natCast_ediv, -Int.natCast_emod, -Int.natCast_mul, -Int.natCast_add, Try.results58, hDl]
        refine callp (hput (f2 hh) hDl _ _) ?_
        simp -implicitDefEqProofs [-Int.natCast_ediv, -Int.natCast_emod, -Int.natCast_mul, -Int.natCast_add, Try.results58, rG]
      · have hover : put t.natAbs D m = (0, 0, 3) := big_put (.inr hDl)
        rw [hover]
        simp -implicitDefEqProofs [-Int.natCast_ediv, -Int.natCast_emod, -Int.natCast_mul, -Int.natCast_add, Try.results58, hDl, rG]
    · have hge : p ≤ H := Nat.not_lt.1 hh
      rw [f1 hh]
      simp -implicitDefEqProofs [-Int.natCast_ediv, -Int.natCast_emod, -Int.natCast_mul, -Int.natCast_add, Try.results58, hge, rG]
theorem add_ev (aN aD bN bD : Int) (h1 : In64 aN) (h2 : In64 aD) (h3 : In64 bN) (h4 : In64 bD) (d : Nat) (G : Heap) :
    Tel Try.prog TB d 58 [.agg [.p (.int .i64 aN), .p (.int .i64 aD)], .agg [.p (.int .i64 bN), .p (.int .i64 bD)]] G (rG (addS aN aD bN bD)) G := by
  unfold addS
  have rA := fun d G => right_ev (TB := TB) aN aD h1 h2 d G
  have rB := fun d G => right_ev (TB := TB) bN bD h3 h4 d G
  by_cases hra : Right aN aD
  · by_cases hrb : Right bN bD
    · rw [if_pos ⟨hra, hrb⟩]
      obtain ⟨A, rfl, hA0, hA1, hAc⟩ := right_nat hra h2
      obtain ⟨B, rfl, hB0, hB1, hBc⟩ := right_nat hrb h4
      obtain ⟨t, ht, hval, hcop, hne⟩ := BallQ.add_parts hAc hBc hA0 hB0 (aN * ((B / A.gcd B : Nat) : Int) + bN * ((A / A.gcd B : Nat) : Int)) rfl
      have eq0 : q aN (A : Int) + q bN (B : Int) = mkRat aN A + mkRat bN B := by unfold BallQ.q; simp
      rw [eq0, hval]
      have hg0 : 0 < A.gcd B := Nat.gcd_pos_of_pos_left _ hA0
      exact add_run h1 h3 hA1 hB1 rfl hg0 (Nat.lt_of_le_of_lt (Nat.gcd_le_left B hA0) hA1) rfl rfl rfl rfl ht rfl hne hcop hra hrb d G
    · rw [if_neg (fun h => hrb h.2)]
      rw [decide_eq_true hra] at rA
      rw [decide_eq_false hrb] at rB
      refine Tel.intro mix Try.func58 rfl (Nat.le_of_ble_eq_true rfl) {} (by kernel_rfl) (by kernel_rfl) ?_
      simp -implicitDefEqProofs [Try.results58]
      refine callp (rA _ _) ?_
      simp -implicitDefEqProofs [Try.results58]
      refine callp (rB _ _) ?_
      simp -implicitDefEqProofs [Try.results58, rG]
  · rw [if_neg (fun h => hra h.1)]
    rw [decide_eq_false hra] at rA
    refine Tel.intro mix Try.func58 rfl (Nat.le_of_ble_eq_true rfl) {} (by kernel_rfl) (by kernel_rfl) ?_
    simp -implicitDefEqProofs [Try.results58]
    refine callp (rA _ _) ?_
    simp -implicitDefEqProofs [Try.results58, rG]
end Go.E
end
section
set_option linter.all false
set_option maxRecDepth 100000
namespace Go.E
open Go Go.Proofs Go.Eng
open BallQ (In64 Right q out fits put)
variable {TB : Nat → Option Obj}
theorem mul_run {aN bN : Int} {A B : Nat} (h1 : In64 aN) (h3 : In64 bN) (hA : A < 9223372036854775808) (hB : B < 9223372036854775808) (hA0 : 0 < A) (hB0 : 0 < B) (ha : aN.natAbs.gcd A = 1) (hb : bN.natAbs.gcd B = 1)
    (hra : Right aN A) (hrb : Right bN B) (d : Nat) (G : Heap) :
    Tel Try.prog TB d 51 [.agg [.p (.int .i64 aN), .p (.int .i64 (A : Int))], .agg [.p (.int .i64 bN), .p (.int .i64 (B : Int))]] G (rG (out (mkRat aN A * mkRat bN B))) G := by
  have g1 : 0 < aN.natAbs.gcd B := Nat.gcd_pos_of_pos_right _ hB0
  have g2 : 0 < bN.natAbs.gcd A := Nat.gcd_pos_of_pos_right _ hA0
  have ka : aN.natAbs < 18446744073709551616 := Nat.lt_of_le_of_lt (natAbs_le h1) (by decide)
  have kb : bN.natAbs < 18446744073709551616 := Nat.lt_of_le_of_lt (natAbs_le h3) (by decide)
  have l1 : aN.natAbs / aN.natAbs.gcd B < 18446744073709551616 := Nat.lt_of_le_of_lt (Nat.div_le_self _ _) ka
  have l2 : bN.natAbs / bN.natAbs.gcd A < 18446744073709551616 := Nat.lt_of_le_of_lt (Nat.div_le_self _ _) kb
  have l3 : A / bN.natAbs.gcd A < 18446744073709551616 := Nat.lt_of_le_of_lt (Nat.div_le_self _ _) (lt64 hA)
  have l4 : B / aN.natAbs.gcd B < 18446744073709551616 := Nat.lt_of_le_of_lt (Nat.div_le_self _ _) (lt64 hB)
  have mp := fun m hm => mul_parts (m := m) ha hb hA0 hB0 hm
  have rA := fun d G => right_ev (TB := TB) aN (A : Int) h1 (in64_nat hA) d G
  have rB := fun d G => right_ev (TB := TB) bN (B : Int) h3 (in64_nat hB) d G
  rw [decide_eq_true hra] at rA
  rw [decide_eq_true hrb] at rB
  have za := fun d G => size_ev (TB := TB) aN h1 d G
  have zb := fun d G => size_ev (TB := TB) bN h3 d G
  have zA := fun d G => size_nat (TB := TB) A hA d G
  have zB := fun d G => size_nat (TB := TB) B hB d G
  have c1 := fun d G => common_ev (TB := TB) aN.natAbs B d G
  have c2 := fun d G => common_ev (TB := TB) bN.natAbs A d G
  have q1 := quo_eq (y := aN.natAbs.gcd B) ka
  have q2 := quo_eq (y := bN.natAbs.gcd A) kb
  have q3 := quo_eq (y := bN.natAbs.gcd A) (lt64 hA)
  have q4 := quo_eq (y := aN.natAbs.gcd B) (lt64 hB)
  have p1 := fun d G => product_ev (TB := TB) _ _ l1 l2 d G
  have p2 := fun d G => product_ev (TB := TB) _ _ l3 l4 d G
  have g10 : ¬ (aN.natAbs.gcd B = 0) := Nat.ne_of_gt g1
  have g20 : ¬ (bN.natAbs.gcd A = 0) := Nat.ne_of_gt g2
  generalize mkRat aN A * mkRat bN B = V at *
  clear ha hb hra hrb l1 l2 l3 l4 g1 g2 hA0 hB0
  generalize aN.natAbs.gcd B = ga at *
  generalize bN.natAbs.gcd A = gb at *
  generalize aN.natAbs = an at *
  generalize bN.natAbs = bn at *
  generalize an / ga = a1 at *
  generalize bn / gb = b1 at *
  generalize A / gb = a2 at *
  generalize B / ga = b2 at *
  generalize a1 * b1 = N at *
  generalize a2 * b2 = D at *
  have hput := fun m h1 h2 d G => put_ev (TB := TB) N D m h1 h2 d G
  have w1 : (!(decide (aN < 0) == decide (bN < 0))) = (decide (aN < 0) != decide (bN < 0)) := rfl
  generalize hx : (decide (aN < 0) != decide (bN < 0)) = x at *
  refine Tel.intro mix Try.func51 rfl (Nat.le_of_ble_eq_true rfl) {} (by kernel_rfl) (by kernel_rfl) ?_
  simp -implicitDefEqProofs [-Int.natCast_ediv, -Int.natCast_emod, -Int.natCast_mul, -Int.natCast_add, Try.results51]
  refine callp (rA _ _) ?_
  simp -implicitDefEqProofs [-Int.natCast_ediv, -Int.natCast_emod, -Int.natCast_mul, -Int.natCast_add, Try.results51]
  refine callp (rB _ _) ?_
  simp -implicitDefEqProofs [-Int.natCast_ediv, -Int.natCast_emod, -Int.natCast_mul, -Int.natCast_add, Try.results51]
  refine callp (za _ _) ?_
  simp -implicitDefEqProofs [-Int.natCast_ediv, -Int.natCast_emod, -Int.natCast_mul, -Int.natCast_add, Try.results51]
  refine callp (zB _ _) ?_
  simp -implicitDefEqProofs [-Int.natCast_ediv, -Int.natCast_emod, -Int.natCast_mul, -Int.natCast_add, Try.results51]
  refine callp (c1 _ _) ?_
  simp -implicitDefEqProofs [-Int.natCast_ediv, -Int.natCast_emod, -Int.natCast_mul, -Int.natCast_add, Try.results51]
  refine callp (zb _ _) ?_
  simp -implicitDefEqProofs [-Int.natCast_ediv, -Int.natCast_emod, -Int.natCast_mul, -Int.natCast_add, Try.results51]
  refine callp (zA _ _) ?_
  simp -implicitDefEqProofs [-Int.natCast_ediv, -Int.natCast_emod, -Int.natCast_mul, -Int.natCast_add, Try.results51]
  refine callp (c2 _ _) ?_
  simp -implicitDefEqProofs [-Int.natCast_ediv, -Int.natCast_emod, -Int.natCast_mul, -Int.natCast_add, Try.results51]
  refine callp (za _ _) ?_
  simp -implicitDefEqProofs [-Int.natCast_ediv, -Int.natCast_emod, -Int.natCast_mul, -Int.natCast_add, Try.results51, g10, q1]
  refine callp (zb _ _) ?_
  simp -implicitDefEqProofs [-Int.natCast_ediv, -Int.natCast_emod, -Int.natCast_mul, -Int.natCast_add, Try.results51, g20, q2]
  refine callp (p1 _ _) ?_
  simp -implicitDefEqProofs [-Int.natCast_ediv, -Int.natCast_emod, -Int.natCast_mul, -Int.natCast_add, Try.results51]
  refine callp (zA _ _) ?_
  simp -implicitDefEqProofs [-Int.natCast_ediv, -Int.natCast_emod, -Int.natCast_mul, -Int.natCast_add, Try.results51, g20, q3]
  refine callp (zB _ _) ?_
  simp -implicitDefEqProofs [-Int.natCast_ediv, -Int.natCast_emod, -Int.natCast_mul, -Int.natCast_add, Try.results51, g10, q4]
  refine callp (p2 _ _) ?_
  by_cases hN : N < 18446744073709551616
  · by_cases hD : D < 18446744073709551616
    · rw [Nat.mod_eq_of_lt hN, Nat.mod_eq_of_lt hD]
      cases x with
      | false =>
        rw [mp false (fun _ _ => rfl)]
        simp -implicitDefEqProofs [-Int.natCast_ediv, -Int.natCast_emod, -Int.natCast_mul, -Int.natCast_add, Try.results51, hN, hD, w1]
        refine callp (hput false hN hD _ _) ?_
        simp -implicitDefEqProofs [-Int.natCast_ediv, -Int.natCast_emod, -Int.natCast_mul, -Int.natCast_add, Try.results51, rG]
      | true =>
        by_cases hz : N = 0
        · rw [mp true (fun _ _ => rfl)]
          have e : put N D true = put N D false := by subst hz; unfold BallQ.put; simp
          rw [e]
          simp -implicitDefEqProofs [-Int.natCast_ediv, -Int.natCast_emod, -Int.natCast_mul, -Int.natCast_add, Try.results51, hN, hD, w1, hz]
          have hput' := hput false hN hD
          rw [hz] at hput'
          refine callp (hput' _ _) ?_
          simp -implicitDefEqProofs [-Int.natCast_ediv, -Int.natCast_emod, -Int.natCast_mul, -Int.natCast_add, Try.results51, rG]
        · rw [mp true (fun _ _ => rfl)]
          simp -implicitDefEqProofs [-Int.natCast_ediv, -Int.natCast_emod, -Int.natCast_mul, -Int.natCast_add, Try.results51, hN, hD, w1, hz]
          refine callp (hput true hN hD _ _) ?_
          simp -implicitDefEqProofs [-Int.natCast_ediv, -Int.natCast_emod, -Int.natCast_mul, -Int.natCast_add, Try.results51, rG]
    · rw [mp x (fun _ _ => rfl), big_put (.inr hD)]
      simp -implicitDefEqProofs [-Int.natCast_ediv, -Int.natCast_emod, -Int.natCast_mul, -Int.natCast_add, Try.results51, hN, hD, rG]
  · rw [mp x (fun _ _ => rfl), big_put (.inl hN)]
    simp -implicitDefEqProofs [-Int.natCast_ediv, -Int.natCast_emod, -Int.natCast_mul, -Int.natCast_add, Try.results51, hN, rG]
theorem mul_ev (aN aD bN bD : Int) (h1 : In64 aN) (h2 : In64 aD) (h3 : In64 bN) (h4 : In64 bD) (d : Nat) (G : Heap) :
    Tel Try.prog TB d 51 [.agg [.p (.int .i64 aN), .p (.int .i64 aD)], .agg [.p (.int .i64 bN), .p (.int .i64 bD)]] G (rG (mulS aN aD bN bD)) G := by
  unfold mulS
  have rA := fun d G => right_ev (TB := TB) aN aD h1 h2 d G
  have rB := fun d G => right_ev (TB := TB) bN bD h3 h4 d G
  by_cases hra : Right aN aD
  · by_cases hrb : Right bN bD
    · rw [if_pos ⟨hra, hrb⟩]
      obtain ⟨A, rfl, hA0, hA1, hAc⟩ := right_nat hra h2
      obtain ⟨B, rfl, hB0, hB1, hBc⟩ := right_nat hrb h4
      have eq0 : q aN (A : Int) * q bN (B : Int) = mkRat aN A * mkRat bN B := by unfold BallQ.q; simp
      rw [eq0]
      exact mul_run h1 h3 hA1 hB1 hA0 hB0 hAc hBc hra hrb d G
    · rw [if_neg (fun h => hrb h.2)]
      rw [decide_eq_true hra] at rA
      rw [decide_eq_false hrb] at rB
      refine Tel.intro mix Try.func51 rfl (Nat.le_of_ble_eq_true rfl) {} (by kernel_rfl) (by kernel_rfl) ?_
      simp -implicitDefEqProofs [Try.results51]
      refine callp (rA _ _) ?_
      simp -implicitDefEqProofs [Try.results51]
      refine callp (rB _ _) ?_
      simp -implicitDefEqProofs [Try.results51, rG]
  · rw [if_neg (fun h => hra h.1)]
    rw [decide_eq_false hra] at rA
    refine Tel.intro mix Try.func51 rfl (Nat.le_of_ble_eq_true rfl) {} (by kernel_rfl) (by kernel_rfl) ?_
    simp -implicitDefEqProofs [Try.results51]
    refine callp (rA _ _) ?_
    simp -implicitDefEqProofs [Try.results51, rG]
end Go.E
end
section
set_option linter.all false
set_option maxRecDepth 100000
namespace Go.E.Ref
open Go Go.Proofs Go.Eng BallBits
open BallQ
variable {TB : Nat → Option Obj}
def Sz (n : Nat) : Prop := (bof n).length ≤ 2000
theorem len_le (L : Nat) {m n : Nat} (h : (bof n).length ≤ L) (hm : m ≤ n) : (bof m).length ≤ L := length_bof_le (Nat.lt_of_le_of_lt hm (lt_of_length h))
theorem Sz.le {m n : Nat} (h : Sz n) (hm : m ≤ n) : Sz m := len_le 2000 h hm
abbrev nG (n : Nat) : GV := bG (bof n)
end Go.E.Ref
end
section
set_option linter.all false
set_option maxRecDepth 100000
namespace Go.E
open Go Go.Proofs Go.Eng
variable {TB : Nat → Option Obj}
theorem loop4 {P : Program} {C : CR} {A : Ann} {d : Nat} {c : Code} {Q : GE → Eng.St → Prop} {s : Eng.St} (h : loopW d (gwp P C A d c) (A.clean (firstId c)) Q 4 s) : gwp P C A d (.loop c) Q s := ⟨4, h⟩
theorem loopS {d n : Nat} {body : (GE → Eng.St → Prop) → Eng.St → Prop} {ts : List Nat} {Q : GE → Eng.St → Prop} {s : Eng.St} : loopW d body ts Q (n + 1) s = body (GE.then (loopW d body ts Q n) Q) (clean d ts s) := rfl
theorem bmul_ev (d : Nat) (G : Heap) : Tel Try.prog TB d 101 [.p (.int .u64 1), .p (.int .u64 8)] G (.tup [.p (.int .u64 0), .p (.int .u64 8)]) G := by
  have m := fun d G => mul64_ev (TB := TB) 1 8 (by decide) (by decide) d G
  refine Tel.intro mix Try.func101 rfl (Nat.le_of_ble_eq_true rfl) {} (by kernel_rfl) (by kernel_rfl) ?_
  simp -implicitDefEqProofs [-Int.natCast_ediv, -Int.natCast_emod, -Int.natCast_mul, -Int.natCast_add, Try.results101]
  refine callp (m _ _) ?_
  simp -implicitDefEqProofs [-Int.natCast_ediv, -Int.natCast_emod, -Int.natCast_mul, -Int.natCast_add, Try.results101]
theorem repeat_ev (x y : PV) (d : Nat) (G : Heap) : Tel Try.prog TB d 71 [.p (.sl [[x, y]]), .p (.int .i64 8)] G (.oar (List.replicate 8 [x, y]) 2) G := by
  refine Tel.intro mix Try.func71 rfl (Nat.le_of_ble_eq_true rfl) {arrAt := fun t => t == 30} (by kernel_rfl) (by kernel_rfl) ?_
  simp -implicitDefEqProofs [-Int.natCast_ediv, -Int.natCast_emod, -Int.natCast_mul, -Int.natCast_add, Try.results71]
  refine callp (bmul_ev _ _) ?_
  have w8 : IntKind.i64.wrap 8 = 8 := by decide
  simp -implicitDefEqProofs [-Int.natCast_ediv, -Int.natCast_emod, -Int.natCast_mul, -Int.natCast_add, Try.results71, gMake, w8]
  simp -implicitDefEqProofs [-Int.natCast_ediv, -Int.natCast_emod, -Int.natCast_mul, -Int.natCast_add, Try.results71, gCopy, partOf, srcOf, sizes, List.replicate]
  refine loop4 ?_
  have w1 : IntKind.i64.wrap 2 = 2 := by decide
  have w2 : IntKind.i64.wrap 4 = 4 := by decide
  have w4 : IntKind.i64.wrap 8 = 8 := by decide
  rw [loopS]
  simp -implicitDefEqProofs [-Int.natCast_ediv, -Int.natCast_emod, -Int.natCast_mul, -Int.natCast_add, Try.results71, gMake, gCopy, partOf, srcOf, sizes, List.replicate, clean_nil, firstId, w1, w2, w4, w8, loopS]
end Go.E
end
section
set_option linter.all false
set_option maxRecDepth 100000
namespace Go.E
open BallQ
def invN (bN bD : Int) : Int := if bN < 0 then -bD else bD
def divS (aN aD bN bD : Int) : Int × Int × Int := if Right aN aD ∧ Right bN bD ∧ bN ≠ 0 then mulS aN aD (invN bN bD) (bN.natAbs : Int) else (0, 0, 2)
theorem inv_right {bN bD : Int} (h : Right bN bD) (hn : In64 bN) (hd : In64 bD) (h0 : bN ≠ 0) : Right (invN bN bD) (bN.natAbs : Int) ∧ In64 (invN bN bD) ∧ In64 (bN.natAbs : Int) ∧ (invN bN bD).natAbs = bD.natAbs ∧ decide (invN bN bD < 0) = decide (bN < 0) := by
  obtain ⟨r1, r2, r3⟩ := h
  obtain ⟨n1, n2⟩ := hn
  obtain ⟨d1, d2⟩ := hd
  have e1 : (invN bN bD).natAbs = bD.natAbs := by unfold invN; split <;> omega
  refine ⟨⟨by omega, by unfold invN; split <;> omega, ?_⟩, ?_, by unfold In64; omega, e1, ?_⟩
  · rw [e1, Int.natAbs_natCast, Nat.gcd_comm]; exact r3
  · unfold In64 invN; split <;> omega
  · apply decide_eq_decide.2
    unfold invN
    split <;> omega
end Go.E
end
section
set_option linter.all false
set_option maxRecDepth 100000
namespace Go.E
open Go Go.Proofs Go.Eng
variable {TB : Nat → Option Obj}
structure TRat where
  f0 : Int
  f1 : Int
@[go_sem] def cTRat (x : TRat) : List PV := [.int .i64 x.f0, .int .i64 x.f1]
@[go_sem] theorem sz_TRat (l : List TRat) : sizes (l.map cTRat) 2 = True := sizes_m (c := cTRat) (n := 2) (fun _ => rfl) l
structure TTerm where
  f0 : List TRat
  f1 : TRat
@[go_sem] def cTTerm (x : TTerm) : List PV := [.sl (x.f0.map cTRat), .int .i64 x.f1.f0, .int .i64 x.f1.f1]
@[go_sem] theorem sz_TTerm (l : List TTerm) : sizes (l.map cTTerm) 3 = True := sizes_m (c := cTTerm) (n := 3) (fun _ => rfl) l
structure TGauss_row where
  f0 : TTerm
  f1 : Int
@[go_sem] def cTGauss_row (x : TGauss_row) : List PV := [.sl (x.f0.f0.map cTRat), .int .i64 x.f0.f1.f0, .int .i64 x.f0.f1.f1, .int .i64 x.f1]
@[go_sem] theorem sz_TGauss_row (l : List TGauss_row) : sizes (l.map cTGauss_row) 4 = True := sizes_m (c := cTGauss_row) (n := 4) (fun _ => rfl) l
structure TGauss_system where
  f0 : List TGauss_row
  f1 : Bool
@[go_sem] def cTGauss_system (x : TGauss_system) : List PV := [.sl (x.f0.map cTGauss_row), .bool x.f1]
@[go_sem] theorem sz_TGauss_system (l : List TGauss_system) : sizes (l.map cTGauss_system) 2 = True := sizes_m (c := cTGauss_system) (n := 2) (fun _ => rfl) l
structure TRow where
  f0 : Int
  f1 : TTerm
@[go_sem] def cTRow (x : TRow) : List PV := [.int .i64 x.f0, .sl (x.f1.f0.map cTRat), .int .i64 x.f1.f1.f0, .int .i64 x.f1.f1.f1]
@[go_sem] theorem sz_TRow (l : List TRow) : sizes (l.map cTRow) 4 = True := sizes_m (c := cTRow) (n := 4) (fun _ => rfl) l
structure TBound_engine where
  f0 : Bool
@[go_sem] def cTBound_engine (x : TBound_engine) : List PV := [.bool x.f0]
@[go_sem] theorem sz_TBound_engine (l : List TBound_engine) : sizes (l.map cTBound_engine) 1 = True := sizes_m (c := cTBound_engine) (n := 1) (fun _ => rfl) l
structure TBound_stage where
  f0 : List TRow
  f1 : List TRow
@[go_sem] def cTBound_stage (x : TBound_stage) : List PV := [.sl (x.f0.map cTRow), .sl (x.f1.map cTRow)]
@[go_sem] theorem sz_TBound_stage (l : List TBound_stage) : sizes (l.map cTBound_stage) 2 = True := sizes_m (c := cTBound_stage) (n := 2) (fun _ => rfl) l
structure TS37 where
  f0 : Bool
  f1 : Bool
@[go_sem] def cTS37 (x : TS37) : List PV := [.bool x.f0, .bool x.f1]
@[go_sem] theorem sz_TS37 (l : List TS37) : sizes (l.map cTS37) 2 = True := sizes_m (c := cTS37) (n := 2) (fun _ => rfl) l
structure TPerm where
  f0 : Int
  f1 : TRat
  f2 : Int
  f3 : Int
@[go_sem] def cTPerm (x : TPerm) : List PV := [.int .i64 x.f0, .int .i64 x.f1.f0, .int .i64 x.f1.f1, .int .i64 x.f2, .int .u32 x.f3]
@[go_sem] theorem sz_TPerm (l : List TPerm) : sizes (l.map cTPerm) 5 = True := sizes_m (c := cTPerm) (n := 5) (fun _ => rfl) l
structure TContract where
  f0 : ByteArray
  f1 : Bool
  f2 : ByteArray
  f3 : Int
  f4 : TRat
  f5 : Int
  f6 : Int
  f7 : Int
@[go_sem] def cTContract (x : TContract) : List PV := [.str x.f0, .bool x.f1, .str x.f2, .int .i64 x.f3, .int .i64 x.f4.f0, .int .i64 x.f4.f1, .int .u32 x.f5, .int .u32 x.f6, .int .u32 x.f7]
@[go_sem] theorem sz_TContract (l : List TContract) : sizes (l.map cTContract) 9 = True := sizes_m (c := cTContract) (n := 9) (fun _ => rfl) l
structure TLend_left where
  f0 : TPerm
  f1 : Bool
@[go_sem] def cTLend_left (x : TLend_left) : List PV := [.int .i64 x.f0.f0, .int .i64 x.f0.f1.f0, .int .i64 x.f0.f1.f1, .int .i64 x.f0.f2, .int .u32 x.f0.f3, .bool x.f1]
@[go_sem] theorem sz_TLend_left (l : List TLend_left) : sizes (l.map cTLend_left) 6 = True := sizes_m (c := cTLend_left) (n := 6) (fun _ => rfl) l
structure TLend_caller where
  f0 : List TPerm
  f1 : List TLend_left
  f2 : List Int
  f3 : List Int
  f4 : List TRat
@[go_sem] def cTLend_caller (x : TLend_caller) : List PV := [.sl (x.f0.map cTPerm), .sl (x.f1.map cTLend_left), .sl (x.f2.map ciu32), .sl (x.f3.map ciu32), .sl (x.f4.map cTRat)]
@[go_sem] theorem sz_TLend_caller (l : List TLend_caller) : sizes (l.map cTLend_caller) 5 = True := sizes_m (c := cTLend_caller) (n := 5) (fun _ => rfl) l
structure TDiag where
  f0 : Int
  f1 : Int
  f2 : ByteArray
@[go_sem] def cTDiag (x : TDiag) : List PV := [.int .i64 x.f0, .int .i64 x.f1, .str x.f2]
@[go_sem] theorem sz_TDiag (l : List TDiag) : sizes (l.map cTDiag) 3 = True := sizes_m (c := cTDiag) (n := 3) (fun _ => rfl) l
structure TBallcocklaw18_Case where
  f0 : List TPerm
  f1 : List Int
  f2 : List TRat
@[go_sem] def cTBallcocklaw18_Case (x : TBallcocklaw18_Case) : List PV := [.sl (x.f0.map cTPerm), .sl (x.f1.map ciu32), .sl (x.f2.map cTRat)]
@[go_sem] theorem sz_TBallcocklaw18_Case (l : List TBallcocklaw18_Case) : sizes (l.map cTBallcocklaw18_Case) 3 = True := sizes_m (c := cTBallcocklaw18_Case) (n := 3) (fun _ => rfl) l
def eqTRat (x y : TRat) : Bool := decide (x.f0 = y.f0) && decide (x.f1 = y.f1)
theorem eqr_TRat (a0 b0 : Int) (a1 b1 : Int) (w : World) : (do eqGuard .eql 25 (.const undef) (.const undef) (.agg #[.int .i64 a0, .int .i64 a1]) (.agg #[.int .i64 b0, .int .i64 b1]); Op.equal 25 (.agg #[.int .i64 a0, .int .i64 a1]) (.agg #[.int .i64 b0, .int .i64 b1]) : Sem Bool).run Try.prog w = .ok (decide (a0 = b0) && decide (a1 = b1)) w := by
  go_simp
  show Sem.run Try.prog (Op.equalIn 10000 _ _ _) w = _
  go_simp
  try simp only [toL]
  by_cases e0 : a0 = b0 <;> by_cases e1 : a1 = b1 <;> simp [e0, e1]
theorem eqS_TRat (x y : TRat) {K : GV → Prop} {neg : Bool} (h : K (.p (.bool (if neg then !(eqTRat x y) else eqTRat x y)))) : gEqS Try.prog 25 [.p (.int .i64 x.f0), .p (.int .i64 x.f1)] [.p (.int .i64 y.f0), .p (.int .i64 y.f1)] neg K :=
  ⟨_, fun w => eqr_TRat _ _ _ _ w, h⟩
def eqTDiag (x y : TDiag) : Bool := decide (x.f0 = y.f0) && decide (x.f1 = y.f1) && decide (x.f2 = y.f2)
theorem eqr_TDiag (a0 b0 : Int) (a1 b1 : Int) (a2 b2 : ByteArray) (w : World) : (do eqGuard .eql 57 (.const undef) (.const undef) (.agg #[.int .i64 a0, .int .i64 a1, .string a2]) (.agg #[.int .i64 b0, .int .i64 b1, .string b2]); Op.equal 57 (.agg #[.int .i64 a0, .int .i64 a1, .string a2]) (.agg #[.int .i64 b0, .int .i64 b1, .string b2]) : Sem Bool).run Try.prog w = .ok (decide (a0 = b0) && decide (a1 = b1) && decide (a2 = b2)) w := by
  go_simp
  show Sem.run Try.prog (Op.equalIn 10000 _ _ _) w = _
  go_simp
  try simp only [toL]
  by_cases e0 : a0 = b0 <;> by_cases e1 : a1 = b1 <;> by_cases e2 : a2 = b2 <;> simp [e0, e1, e2]
theorem eqS_TDiag (x y : TDiag) {K : GV → Prop} {neg : Bool} (h : K (.p (.bool (if neg then !(eqTDiag x y) else eqTDiag x y)))) : gEqS Try.prog 57 [.p (.int .i64 x.f0), .p (.int .i64 x.f1), .p (.str x.f2)] [.p (.int .i64 y.f0), .p (.int .i64 y.f1), .p (.str y.f2)] neg K :=
  ⟨_, fun w => eqr_TDiag _ _ _ _ _ _ w, h⟩
def in64R (r : TRat) : Prop := BallQ.In64 r.f0 ∧ BallQ.In64 r.f1
instance (r : TRat) : Decidable (in64R r) := inferInstanceAs (Decidable (_ ∧ _))
def toR (x : Int × Int × Int) : TRat × Int := (⟨x.1, x.2.1⟩, x.2.2)
noncomputable def m_rat_Right (a0 : TRat) : Option Bool := Option.bind (rq (decide (in64R a0))) fun _ => some (decide (BallQ.Right a0.f0 a0.f1))
noncomputable def m_rat_Add (a0 a1 : TRat) : Option (TRat × Int) := Option.bind (rq (decide (in64R a0 ∧ in64R a1))) fun _ => some (toR (addS a0.f0 a0.f1 a1.f0 a1.f1))
noncomputable def m_rat_Mul (a0 a1 : TRat) : Option (TRat × Int) := Option.bind (rq (decide (in64R a0 ∧ in64R a1))) fun _ => some (toR (mulS a0.f0 a0.f1 a1.f0 a1.f1))
noncomputable def m_rat_Div (a0 : TRat) (a1 : TRat) : Option (TRat × Int) :=
 Option.bind (m_rat_Right a0) fun r1 =>  Option.bind  (ifB (!r1)  (some (true))  (Option.bind (m_rat_Right a1) fun r5 =>  ifB (!r5)  (some (true))  (some (decide (a1.f0 = 0)))) : Option (Bool)) fun v2 =>  ifB v2  (some (((⟨0, 0⟩ : TRat), 2)))  (ifB (decide (a1.f0 < 0))  (Option.bind (m_rat_Mul a0 (⟨IntKind.wrap .i64 (0 - a1.f1), IntKind.wrap .i64 (0 - a1.f0)⟩ : TRat)) fun r10 =>  some ((r10.1, r10.2)))  (Option.bind (m_rat_Mul a0 (⟨a1.f1, a1.f0⟩ : TRat)) fun r11 =>  some ((r11.1, r11.2))))
noncomputable def m_rat_sum (a0 a1 a2 a3 : Int) : Option (Int × Int × Bool) := Option.bind (rq (decide (BallQ.In64 a0 ∧ BallQ.In64 a1 ∧ BallQ.In64 a2 ∧ BallQ.In64 a3 ∧ a0 * a1 + a2 * a3 ≠ 0))) fun _ => some ((((a0 * a1 + a2 * a3).natAbs / 18446744073709551616 : Nat) : Int), (((a0 * a1 + a2 * a3).natAbs % 18446744073709551616 : Nat) : Int), decide ((a0 * a1 + a2 * a3) < 0))
noncomputable def m_rat_minus (a0 : TRat) : Option TRat :=
 some ((⟨IntKind.wrap .i64 (0 - a0.f0), a0.f1⟩ : TRat))
noncomputable def m_rat_Sub (a0 : TRat) (a1 : TRat) : Option (TRat × Int) :=
 Option.bind (m_rat_Right a1) fun r1 =>  ifB (!r1)  (some (((⟨0, 0⟩ : TRat), 2)))  (Option.bind (m_rat_minus a1) fun r3 =>  Option.bind (m_rat_Add a0 r3) fun r4 =>  some ((r4.1, r4.2)))
noncomputable def m_rat_Compare (a0 : TRat) (a1 : TRat) : Option Int :=
 Option.bind (m_rat_Right a0) fun r1 =>  Option.bind  (ifB (!r1)  (some (true))  (Option.bind (m_rat_Right a1) fun r5 =>  ifB (!r5)  (some (true))  (some (eqTRat a0 a1))) : Option (Bool)) fun v2 =>  ifB v2  (some (0))  (Option.bind (m_rat_sum a0.f0 a1.f1 (IntKind.wrap .i64 (0 - a1.f0)) a0.f1) fun r9 =>  ifB r9.2.2  (some (-1))  (some (1)))
noncomputable def m_slices_IndexFunc_api_Rat_L0 (a0 : List TRat) (a1 : (TRat → Option Bool)) : Int → Option ((Int) ⊕ ((Unit) ⊕ (Int)))
 | v4 =>
 ifB (decide (v4 < (a0.length : Int)))  (Option.bind (gi a0 v4) fun v6 =>  Option.bind (a1 v6) fun r7 =>  ifB r7  (some (.inr (.inr v4)))  (some (.inl (IntKind.wrap .i64 (v4 + 1)))))  (some (.inr (.inl ())))
noncomputable def m_slices_IndexFunc_api_Rat (a0 : List TRat) (a1 : (TRat → Option Bool)) : Option Int :=
 Option.bind (loopO (m_slices_IndexFunc_api_Rat_L0 a0 a1) (0)) fun z => (match z with  | .inl _ =>  (some (-1))  | .inr r => (some r))
noncomputable def m_slices_ContainsFunc_api_Rat (a0 : List TRat) (a1 : (TRat → Option Bool)) : Option Bool :=
 Option.bind (m_slices_IndexFunc_api_Rat a0 a1) fun r1 =>  some (decide (0 ≤ r1))
def m_slices_Clone_api_Rat (l : List TRat) : Option (List TRat) := Option.bind (rq (decide (l.length ≤ 1000000))) fun _ => some l
noncomputable def m_slices_Clone_api_Rat_A : Code := match Try.f99.body with
  | some (.seq _ (.seq (.seq _ r) _)) => r
  | _ => .skip
noncomputable def m_slices_Clone_api_Rat_B : Code := match Try.f99.body with
  | some (.seq _ (.seq (.seq _ _) r)) => r
  | _ => .skip
noncomputable def m_term_nought  : Option TRat :=
 some ((⟨0, 1⟩ : TRat))
noncomputable def m_term_At (a0 : TTerm) (a1 : Int) : Option TRat :=
 ifB (decide (a1 < 0))  (Option.bind (m_term_nought) fun r2 =>  some (r2))  (ifB (decide ((a0.f0.length : Int) ≤ a1))  (Option.bind (m_term_nought) fun r4 =>  some (r4))  (Option.bind (gi a0.f0 a1) fun v5 =>  some (v5)))
noncomputable def m_term_one (a0 : TTerm) (a1 : Int) : Option TRat :=
 ifB (decide (a1 < 0))  (some (a0.f1))  (Option.bind (m_term_At a0 a1) fun r2 =>  some (r2))
noncomputable def m_term_Right_1 (a0 : TRat) : Option Bool :=
 Option.bind (m_rat_Right a0) fun r1 =>  some ((!r1))
noncomputable def m_term_Right (a0 : TTerm) : Option Bool :=
 ifB (decide ((a0.f0.length : Int) ≤ 8))  (Option.bind (m_rat_Right a0.f1) fun r2 =>  ifB r2  (Option.bind (m_slices_ContainsFunc_api_Rat a0.f0 (fun x0 => m_term_Right_1 x0)) fun r4 =>  some ((!r4)))  (some (false)))  (some (false))
noncomputable def m_term_trim_L0 (a0 : TTerm) : Int → Option ((Int) ⊕ ((Int)))
 | v4 =>
 Option.bind  (ifB (decide (0 < v4))  (Option.bind (gi a0.f0 (IntKind.wrap .i64 (v4 - 1))) fun v9 =>  some (decide (v9.f0 = 0)))  (some (false)) : Option (Bool)) fun v6 =>  ifB v6  (some (.inl (IntKind.wrap .i64 (v4 - 1))))  (some (.inr (v4)))
noncomputable def m_term_trim (a0 : TTerm) : Option TTerm :=
 Option.bind (loopO (m_term_trim_L0 a0) ((a0.f0.length : Int))) fun v5 =>  (Option.bind (subL a0.f0 0 v5) fun v13 =>  Option.bind (m_slices_Clone_api_Rat v13) fun r14 =>  some ((⟨r14, a0.f1⟩ : TTerm)))
noncomputable def m_term_Own (a0 : TTerm) : Option TTerm :=
 Option.bind (m_term_Right a0) fun r1 =>  ifB (!r1)  (Option.bind (m_term_nought) fun r3 =>  some ((⟨[], r3⟩ : TTerm)))  (Option.bind (m_term_trim a0) fun r4 =>  some (r4))
noncomputable def m_term_Scale_1 (a0 : Int) (u0 : TTerm) (u1 : TRat) : Option (TRat × Int) :=
 Option.bind (m_term_one u0 a0) fun r1 =>  Option.bind (m_rat_Mul r1 u1) fun r2 =>  some ((r2.1, r2.2))
noncomputable def m_term_Add_1 (a0 : Int) (u0 : TTerm) (u1 : TTerm) : Option (TRat × Int) :=
 Option.bind (m_term_one u0 a0) fun r1 =>  Option.bind (m_term_one u1 a0) fun r2 =>  Option.bind (m_rat_Add r1 r2) fun r3 =>  some ((r3.1, r3.2))
noncomputable def m_term_each_L0 (a0 : Int) (a1 : (Int → Option (TRat × Int))) : (Int × (List TRat) × Int × Int) → Option ((Int × (List TRat) × Int × Int) ⊕ (((List TRat) × Int × Int) ⊕ (TTerm × Int)))
 | (v12, v13, v15, v16) =>
 ifB (decide (v12 < (IntKind.wrap .i64 (a0 + 1))))  (Option.bind (a1 (IntKind.wrap .i64 (v12 - 1))) fun r22 =>  ifB (!decide (r22.2 = 0))  (some (.inr (.inr ((⟨[], (⟨0, 0⟩ : TRat)⟩ : TTerm), r22.2))))  (Option.bind  (ifB (decide (v12 = 0))  (some (v13, r22.1.f0, r22.1.f1))  (Option.bind (rq (decide (v13.length + ([r22.1]).length ≤ 1000000))) fun _ =>  some ((v13 ++ ([r22.1])), v15, v16)) : Option ((List TRat) × Int × Int)) fun z => (match z with  | (v24, v26, v27) =>  (some (.inl (IntKind.wrap .i64 (v12 + 1), v24, v26, v27))))))  (some (.inr (.inl (v13, v15, v16))))
noncomputable def m_term_each (a0 : Int) (a1 : (Int → Option (TRat × Int))) : Option (TTerm × Int) :=
 Option.bind (loopO (m_term_each_L0 a0 a1) ((0, [], 0, 0))) fun z => (match z with  | .inl (v17, v19, v20) =>  (Option.bind (m_term_trim (⟨v17, (⟨v19, v20⟩ : TRat)⟩ : TTerm)) fun r34 =>  some ((r34, 0)))  | .inr r => (some r))
noncomputable def m_term_Add (a0 : TTerm) (a1 : TTerm) : Option (TTerm × Int) :=
 Option.bind (m_term_Right a0) fun r1 =>  Option.bind  (ifB (!r1)  (some (true))  (Option.bind (m_term_Right a1) fun r5 =>  some ((!r5))) : Option (Bool)) fun v2 =>  ifB v2  (some (((⟨[], (⟨0, 0⟩ : TRat)⟩ : TTerm), 2)))  (Option.bind (m_term_each (if (a0.f0.length : Int) < (a1.f0.length : Int) then (a1.f0.length : Int) else (a0.f0.length : Int)) (fun x0 => m_term_Add_1 x0 a0 a1)) fun r8 =>  some ((r8.1, r8.2)))
noncomputable def m_term_Scale (a0 : TTerm) (a1 : TRat) : Option (TTerm × Int) :=
 Option.bind (m_term_Right a0) fun r1 =>  Option.bind  (ifB (!r1)  (some (true))  (Option.bind (m_rat_Right a1) fun r5 =>  some ((!r5))) : Option (Bool)) fun v2 =>  ifB v2  (some (((⟨[], (⟨0, 0⟩ : TRat)⟩ : TTerm), 2)))  (Option.bind (m_term_each (a0.f0.length : Int) (fun x0 => m_term_Scale_1 x0 a0 a1)) fun r8 =>  some ((r8.1, r8.2)))
noncomputable def m_term_Value_L0 (v10 : List TRat) (v1 : List TRat) : (Int × Int × Int) → Option ((Int × Int × Int) ⊕ ((Int × Int) ⊕ (TRat × Int)))
 | (v18, v19, v20) =>
 ifB (decide (v18 < (v10.length : Int)))  (Option.bind (gi v10 v18) fun v24 =>  Option.bind (gi v1 v18) fun v25 =>  Option.bind (m_rat_Mul v24 v25) fun r26 =>  ifB (!decide (r26.2 = 0))  (some (.inr (.inr ((⟨0, 0⟩ : TRat), r26.2))))  (Option.bind (m_rat_Add (⟨v19, v20⟩ : TRat) r26.1) fun r28 =>  ifB (!decide (r28.2 = 0))  (some (.inr (.inr ((⟨0, 0⟩ : TRat), r28.2))))  (some (.inl (IntKind.wrap .i64 (v18 + 1), r28.1.f0, r28.1.f1)))))  (some (.inr (.inl (v19, v20))))
noncomputable def m_term_Value (a0 : TTerm) (a1 : List TRat) : Option (TRat × Int) :=
 Option.bind (subL a1 0 (if 8 < (a1.length : Int) then 8 else (a1.length : Int))) fun v1 =>  Option.bind (m_term_Right a0) fun r2 =>  Option.bind  (ifB (!r2)  (some (true))  (Option.bind (m_term_nought) fun r6 =>  Option.bind (m_term_Right (⟨v1, r6⟩ : TTerm)) fun r7 =>  some ((!r7))) : Option (Bool)) fun v3 =>  ifB v3  (some (((⟨0, 0⟩ : TRat), 2)))  (Option.bind (subL a0.f0 0 (if (v1.length : Int) < (a0.f0.length : Int) then (v1.length : Int) else (a0.f0.length : Int))) fun v10 =>  Option.bind (loopO (m_term_Value_L0 v10 v1) ((0, a0.f1.f0, a0.f1.f1))) fun z => (match z with  | .inl (v21, v22) =>  (some (((⟨v21, v22⟩ : TRat), 0)))  | .inr r => (some r)))
noncomputable def m_slices_IndexFunc_api_Term_L0 (a0 : List TTerm) (a1 : (TTerm → Option Bool)) : Int → Option ((Int) ⊕ ((Unit) ⊕ (Int)))
 | v4 =>
 ifB (decide (v4 < (a0.length : Int)))  (Option.bind (gi a0 v4) fun v6 =>  Option.bind (a1 v6) fun r7 =>  ifB r7  (some (.inr (.inr v4)))  (some (.inl (IntKind.wrap .i64 (v4 + 1)))))  (some (.inr (.inl ())))
noncomputable def m_slices_IndexFunc_api_Term (a0 : List TTerm) (a1 : (TTerm → Option Bool)) : Option Int :=
 Option.bind (loopO (m_slices_IndexFunc_api_Term_L0 a0 a1) (0)) fun z => (match z with  | .inl _ =>  (some (-1))  | .inr r => (some r))
noncomputable def m_slices_ContainsFunc_api_Term (a0 : List TTerm) (a1 : (TTerm → Option Bool)) : Option Bool :=
 Option.bind (m_slices_IndexFunc_api_Term a0 a1) fun r1 =>  some (decide (0 ≤ r1))
noncomputable def m_slices_Index_int_L0 (a0 : List Int) (a1 : Int) : Int → Option ((Int) ⊕ ((Unit) ⊕ (Int)))
 | v4 =>
 ifB (decide (v4 < (a0.length : Int)))  (Option.bind (gi a0 v4) fun v6 =>  ifB (decide (a1 = v6))  (some (.inr (.inr v4)))  (some (.inl (IntKind.wrap .i64 (v4 + 1)))))  (some (.inr (.inl ())))
noncomputable def m_slices_Index_int (a0 : List Int) (a1 : Int) : Option Int :=
 Option.bind (loopO (m_slices_Index_int_L0 a0 a1) (0)) fun z => (match z with  | .inl _ =>  (some (-1))  | .inr r => (some r))
noncomputable def m_slices_Contains_int (a0 : List Int) (a1 : Int) : Option Bool :=
 Option.bind (m_slices_Index_int a0 a1) fun r1 =>  some (decide (0 ≤ r1))
noncomputable def m_gauss_Solve_1 (a0 : TTerm) : Option Bool :=
 Option.bind (m_term_Right a0) fun r1 =>  some ((!r1))
noncomputable def m_gauss_Solve_2 (a0 : TGauss_row) (a1 : TGauss_row) : Option Int :=
 some (IntKind.wrap .i64 (a0.f1 - a1.f1))
noncomputable def m_gauss_system_keep (a0 : TGauss_system) (a1 : TTerm) (a2 : Int) : Option (TTerm × TGauss_system) :=
 ifB a0.f1  (some ((a1, (⟨a0.f0, true⟩ : TGauss_system))))  (some ((a1, (⟨a0.f0, (!decide (a2 = 0))⟩ : TGauss_system))))
theorem len_keep {a0 : TGauss_system} {a1 : TTerm} {a2 : Int} {r : TTerm × TGauss_system} (h : m_gauss_system_keep a0 a1 a2 = some r) : r.2.f0.length = a0.f0.length := by
  unfold m_gauss_system_keep at h
  rcases ib h with ⟨_, h⟩ | ⟨_, h⟩ <;> cases h <;> rfl
noncomputable def m_gauss_system_times (a0 : TGauss_system) (a1 : TTerm) (a2 : TRat) : Option (TTerm × TGauss_system) :=
 Option.bind (m_term_Scale a1 a2) fun r1 =>  Option.bind (m_gauss_system_keep a0 r1.1 r1.2) fun r2 =>  some ((r2.1, r2.2))
theorem len_times {a0 : TGauss_system} {a1 : TTerm} {a2 : TRat} {r : TTerm × TGauss_system} (h : m_gauss_system_times a0 a1 a2 = some r) : r.2.f0.length = a0.f0.length := by
  unfold m_gauss_system_times at h
  obtain ⟨r1, _, h⟩ := bs h
  obtain ⟨r2, h2, h⟩ := bs h
  cases h
  exact len_keep h2
noncomputable def m_gauss_system_take_L0 (a0 : TGauss_system) (a2 : Int) (a1 : Int) (r11 : TTerm × TGauss_system) : (Int × Bool × (List TGauss_row)) → Option ((Int × Bool × (List TGauss_row)) ⊕ ((Bool × (List TGauss_row))))
 | (v21, v22, v23) =>
 ifB (decide (v21 < (a0.f0.length : Int)))  (Option.bind (rq (decide (0 ≤ v21))) fun _ =>  Option.bind (rq (decide (v21 < (v23.length : Int)))) fun _ =>  Option.bind (gi v23 v21) fun v30 =>  Option.bind (m_term_At v30.f0 a2) fun r31 =>  Option.bind  (ifB (decide (v21 = a1))  (some (true))  (ifB (decide (r31.f0 = 0))  (some (true))  (some (v22))) : Option (Bool)) fun v32 =>  ifB v32  (some (.inl (IntKind.wrap .i64 (v21 + 1), v22, v23)))  (Option.bind (m_gauss_system_times (⟨v23, v22⟩ : TGauss_system) r11.1 (⟨IntKind.wrap .i64 (0 - r31.f0), r31.f1⟩ : TRat)) fun r38 =>  Option.bind  (ifB (!r38.2.f1)  (Option.bind (m_term_Add v30.f0 r38.1) fun r44 =>  Option.bind (m_gauss_system_keep r38.2 r44.1 r44.2) fun r45 =>  Option.bind (gi r45.2.f0 v21) fun v47 =>  some (r45.2.f1, (r45.2.f0.set v21.toNat (⟨r45.1, v47.f1⟩ : TGauss_row))))  (some (r38.2.f1, r38.2.f0)) : Option (Bool × (List TGauss_row))) fun z => (match z with  | (v40, v41) =>  (some (.inl (IntKind.wrap .i64 (v21 + 1), v40, v41))))))  (some (.inr ((v22, v23))))
noncomputable def m_gauss_system_take (a0 : TGauss_system) (a1 : Int) (a2 : Int) : Option TGauss_system :=
 Option.bind (rq (decide (0 ≤ a1))) fun _ =>  Option.bind (rq (decide (a1 < (a0.f0.length : Int)))) fun _ =>  Option.bind (gi a0.f0 a1) fun v4 =>  Option.bind (m_term_At v4.f0 a2) fun r5 =>  Option.bind (m_rat_Div (⟨1, 1⟩ : TRat) r5) fun r6 =>  Option.bind  (ifB a0.f1  (some (true))  (some ((!decide (r6.2 = 0)))) : Option (Bool)) fun v7 =>  Option.bind (m_gauss_system_times (⟨a0.f0, v7⟩ : TGauss_system) v4.f0 r6.1) fun r11 =>  Option.bind (gi r11.2.f0 a1) fun v13 =>  Option.bind (loopO (m_gauss_system_take_L0 a0 a2 a1 r11) ((0, r11.2.f1, (r11.2.f0.set a1.toNat (⟨r11.1, a2⟩ : TGauss_row))))) fun z => (match z with  | (v24, v25) =>  (some ((⟨v25, v24⟩ : TGauss_system))))
theorem len_take {a0 : TGauss_system} {a1 a2 : Int} {r : TGauss_system} (h : m_gauss_system_take a0 a1 a2 = some r) : r.f0.length = a0.f0.length := by
  unfold m_gauss_system_take at h
  obtain ⟨_, _, h⟩ := bs h
  obtain ⟨_, _, h⟩ := bs h
  obtain ⟨_, _, h⟩ := bs h
  obtain ⟨_, _, h⟩ := bs h
  obtain ⟨_, _, h⟩ := bs h
  obtain ⟨_, _, h⟩ := bs h
  obtain ⟨r11, h11, h⟩ := bs h
  obtain ⟨_, _, h⟩ := bs h
  obtain ⟨⟨v25, v26⟩, hl, h⟩ := bs h
  cases h
  refine loopO_ind (P := fun a => a.2.2.length = a0.f0.length) (Q := fun x => x.2.length = a0.f0.length) (fun a a1 hb hp => ?_) (fun a x hb hp => ?_) hl ?_
  · obtain ⟨x, y, z⟩ := a
    unfold m_gauss_system_take_L0 at hb
    dsimp only at hp hb
    rcases ib hb with ⟨_, hb⟩ | ⟨_, hb⟩
    · obtain ⟨_, _, hb⟩ := bs hb
      obtain ⟨_, _, hb⟩ := bs hb
      obtain ⟨_, _, hb⟩ := bs hb
      obtain ⟨_, _, hb⟩ := bs hb
      obtain ⟨_, _, hb⟩ := bs hb
      rcases ib hb with ⟨_, hb⟩ | ⟨_, hb⟩
      · cases hb; exact hp
      · obtain ⟨r39, h39, hb⟩ := bs hb
        obtain ⟨⟨w1, w2⟩, hw, hb⟩ := bs hb
        cases hb
        have e39 := len_times h39
        dsimp only at e39 ⊢
        rcases ib hw with ⟨_, hw⟩ | ⟨_, hw⟩
        · obtain ⟨r44, _, hw⟩ := bs hw
          obtain ⟨r45, h45, hw⟩ := bs hw
          obtain ⟨_, _, hw⟩ := bs hw
          cases hw
          rw [List.length_set, len_keep h45, e39, hp]
        · cases hw; rw [e39, hp]
    · cases hb
  · obtain ⟨x', y, z⟩ := a
    unfold m_gauss_system_take_L0 at hb
    dsimp only at hp hb
    rcases ib hb with ⟨_, hb⟩ | ⟨_, hb⟩
    · obtain ⟨_, _, hb⟩ := bs hb
      obtain ⟨_, _, hb⟩ := bs hb
      obtain ⟨_, _, hb⟩ := bs hb
      obtain ⟨_, _, hb⟩ := bs hb
      obtain ⟨_, _, hb⟩ := bs hb
      rcases ib hb with ⟨_, hb⟩ | ⟨_, hb⟩
      · cases hb
      · obtain ⟨r39, h39, hb⟩ := bs hb
        obtain ⟨⟨w1, w2⟩, hw, hb⟩ := bs hb
        cases hb
    · cases hb; exact hp
  · dsimp only
    rw [List.length_set]
    have := len_times h11
    exact this
noncomputable def m_slices_IndexFunc_gauss_row_L0 (a0 : List TGauss_row) (a1 : (TGauss_row → Option Bool)) : Int → Option ((Int) ⊕ ((Unit) ⊕ (Int)))
 | v4 =>
 ifB (decide (v4 < (a0.length : Int)))  (Option.bind (gi a0 v4) fun v6 =>  Option.bind (a1 v6) fun r7 =>  ifB r7  (some (.inr (.inr v4)))  (some (.inl (IntKind.wrap .i64 (v4 + 1)))))  (some (.inr (.inl ())))
noncomputable def m_slices_IndexFunc_gauss_row (a0 : List TGauss_row) (a1 : (TGauss_row → Option Bool)) : Option Int :=
 Option.bind (loopO (m_slices_IndexFunc_gauss_row_L0 a0 a1) (0)) fun z => (match z with  | .inl _ =>  (some (-1))  | .inr r => (some r))
noncomputable def m_gauss_system_solve_1 (a0 : TGauss_row) (u0 : Int) : Option Bool :=
 ifB (decide (a0.f1 = (-1)))  (Option.bind (m_term_At a0.f0 u0) fun r2 =>  some ((!decide (r2.f0 = 0))))  (some (false))
noncomputable def m_gauss_system_solve_L0  : (Int × Bool × (List TGauss_row)) → Option ((Int × Bool × (List TGauss_row)) ⊕ ((Bool × (List TGauss_row))))
 | (v8, v9, v10) =>
 ifB (decide (v8 < 8))  (Option.bind (m_slices_IndexFunc_gauss_row v10 (fun x0 => m_gauss_system_solve_1 x0 v8)) fun r14 =>  Option.bind  (ifB (decide (0 ≤ r14))  (some ((!v9)))  (some (false)) : Option (Bool)) fun v15 =>  Option.bind  (ifB v15  (Option.bind (m_gauss_system_take (⟨v10, v9⟩ : TGauss_system) r14 v8) fun r23 =>  some (r23.f1, r23.f0))  (some (v9, v10)) : Option (Bool × (List TGauss_row))) fun z => (match z with  | (v19, v20) =>  (some (.inl (IntKind.wrap .i64 (v8 + 1), v19, v20)))))  (some (.inr ((v9, v10))))
noncomputable def m_gauss_system_solve (a0 : TGauss_system) : Option TGauss_system :=
 Option.bind (loopO (m_gauss_system_solve_L0) ((0, a0.f1, a0.f0))) fun z => (match z with  | (v11, v12) =>  (some ((⟨v12, v11⟩ : TGauss_system))))
noncomputable def m_slices_insertionSortCmpFunc__gauss_row_L1 (a1 : Int) (a3 : (TGauss_row → TGauss_row → Option Int)) : (Int × (List TGauss_row)) → Option ((Int × (List TGauss_row)) ⊕ (((List TGauss_row))))
 | (v15, v16) =>
 Option.bind  (ifB (decide (a1 < v15))  (Option.bind (rq (decide (0 ≤ v15))) fun _ =>  Option.bind (rq (decide (v15 < (v16.length : Int)))) fun _ =>  Option.bind (gi v16 v15) fun v24 =>  Option.bind (rq (decide (0 ≤ IntKind.wrap .i64 (v15 - 1)))) fun _ =>  Option.bind (rq (decide (IntKind.wrap .i64 (v15 - 1) < (v16.length : Int)))) fun _ =>  Option.bind (gi v16 (IntKind.wrap .i64 (v15 - 1))) fun v27 =>  Option.bind (a3 v24 v27) fun r28 =>  some (decide (r28 < 0)))  (some (false)) : Option (Bool)) fun v18 =>  ifB v18  (Option.bind (rq (decide (0 ≤ IntKind.wrap .i64 (v15 - 1)))) fun _ =>  Option.bind (rq (decide (IntKind.wrap .i64 (v15 - 1) < (v16.length : Int)))) fun _ =>  Option.bind (gi v16 (IntKind.wrap .i64 (v15 - 1))) fun v34 =>  Option.bind (rq (decide (0 ≤ v15))) fun _ =>  Option.bind (rq (decide (v15 < (v16.length : Int)))) fun _ =>  Option.bind (gi v16 v15) fun v37 =>  Option.bind (gi (v16.set v15.toNat v34) (IntKind.wrap .i64 (v15 - 1))) fun v38 =>  some (.inl (IntKind.wrap .i64 (v15 - 1), ((v16.set v15.toNat v34).set ((IntKind.wrap .i64 (v15 - 1)).toNat) v37))))  (some (.inr (v16)))
noncomputable def m_slices_insertionSortCmpFunc__gauss_row_L0 (a2 : Int) (a1 : Int) (a3 : (TGauss_row → TGauss_row → Option Int)) : (Int × (List TGauss_row)) → Option ((Int × (List TGauss_row)) ⊕ (((List TGauss_row))))
 | (v6, v7) =>
 ifB (decide (v6 < a2))  (Option.bind (loopO (m_slices_insertionSortCmpFunc__gauss_row_L1 a1 a3) ((v6, v7))) fun v17 =>  (some (.inl (IntKind.wrap .i64 (v6 + 1), v17))))  (some (.inr (v7)))
noncomputable def m_slices_insertionSortCmpFunc__gauss_row (a0 : List TGauss_row) (a1 : Int) (a2 : Int) (a3 : (TGauss_row → TGauss_row → Option Int)) : Option (List TGauss_row) :=
 Option.bind (loopO (m_slices_insertionSortCmpFunc__gauss_row_L0 a2 a1 a3) ((IntKind.wrap .i64 (a1 + 1), a0))) fun v8 =>  (some (v8))
theorem len_ins {a0 : List TGauss_row} {a1 a2 : Int} {a3 : TGauss_row → TGauss_row → Option Int} {r : List TGauss_row} (h : m_slices_insertionSortCmpFunc__gauss_row a0 a1 a2 a3 = some r) : r.length = a0.length := by
  unfold m_slices_insertionSortCmpFunc__gauss_row at h
  obtain ⟨v, hv, h⟩ := bs h
  cases h
  refine loopO_ind (P := fun a => a.2.length = a0.length) (Q := fun x => x.length = a0.length) (fun a a1 hb hp => ?_) (fun a x hb hp => ?_) hv rfl
  · obtain ⟨x, y⟩ := a
    unfold m_slices_insertionSortCmpFunc__gauss_row_L0 at hb
    dsimp only at hp hb
    rcases ib hb with ⟨_, hb⟩ | ⟨_, hb⟩
    · obtain ⟨w, hw, hb⟩ := bs hb
      cases hb
      refine loopO_ind (P := fun a => a.2.length = a0.length) (Q := fun x => x.length = a0.length) (fun a a1 hb hp => ?_) (fun a x hb hp => ?_) hw hp
      · obtain ⟨x, y⟩ := a
        unfold m_slices_insertionSortCmpFunc__gauss_row_L1 at hb
        dsimp only at hp hb
        obtain ⟨_, _, hb⟩ := bs hb
        rcases ib hb with ⟨_, hb⟩ | ⟨_, hb⟩
        · obtain ⟨_, _, hb⟩ := bs hb
          obtain ⟨_, _, hb⟩ := bs hb
          obtain ⟨_, _, hb⟩ := bs hb
          obtain ⟨_, _, hb⟩ := bs hb
          obtain ⟨_, _, hb⟩ := bs hb
          obtain ⟨_, _, hb⟩ := bs hb
          obtain ⟨_, _, hb⟩ := bs hb
          cases hb
          simpa using hp
        · cases hb
      · obtain ⟨x', y⟩ := a
        unfold m_slices_insertionSortCmpFunc__gauss_row_L1 at hb
        dsimp only at hp hb
        obtain ⟨_, _, hb⟩ := bs hb
        rcases ib hb with ⟨_, hb⟩ | ⟨_, hb⟩
        · obtain ⟨_, _, hb⟩ := bs hb
          obtain ⟨_, _, hb⟩ := bs hb
          obtain ⟨_, _, hb⟩ := bs hb
          obtain ⟨_, _, hb⟩ := bs hb
          obtain ⟨_, _, hb⟩ := bs hb
          obtain ⟨_, _, hb⟩ := bs hb
          obtain ⟨_, _, hb⟩ := bs hb
          cases hb
        · cases hb; exact hp
    · cases hb
  · obtain ⟨x', y⟩ := a
    unfold m_slices_insertionSortCmpFunc__gauss_row_L0 at hb
    dsimp only at hp hb
    rcases ib hb with ⟨_, hb⟩ | ⟨_, hb⟩
    · obtain ⟨w, hw, hb⟩ := bs hb
      cases hb
    · cases hb; exact hp
noncomputable def m_slices_stableCmpFunc__gauss_row_L0 (a1 : Int) (a2 : (TGauss_row → TGauss_row → Option Int)) : (Int × Int × (List TGauss_row)) → Option ((Int × Int × (List TGauss_row)) ⊕ ((Int × (List TGauss_row))))
 | (v8, v9, v10) =>
 ifB (decide (v9 ≤ a1))  (Option.bind (m_slices_insertionSortCmpFunc__gauss_row v10 v8 v9 a2) fun r14 =>  some (.inl (v9, IntKind.wrap .i64 (v9 + 20), r14)))  (some (.inr ((v8, v10))))
noncomputable def m_slices_stableCmpFunc__gauss_row_L2 (v22 : Int) (a1 : Int) : Unit → Option ((Unit) ⊕ ((Unit)))
 | _ =>
 ifB (decide ((IntKind.wrap .i64 (2 * v22)) ≤ a1))  (none)  (some (.inr (())))
noncomputable def m_slices_stableCmpFunc__gauss_row_L1 (a1 : Int) : Int → Option ((Int) ⊕ ((Unit)))
 | v22 =>
 ifB (decide (v22 < a1))  (Option.bind (loopO (m_slices_stableCmpFunc__gauss_row_L2 v22 a1) (())) fun _ =>  (ifB (decide ((IntKind.wrap .i64 (0 + v22)) < a1))  (none)  (some (.inl (IntKind.wrap .i64 (v22 * 2))))))  (some (.inr (())))
noncomputable def m_slices_stableCmpFunc__gauss_row (a0 : List TGauss_row) (a1 : Int) (a2 : (TGauss_row → TGauss_row → Option Int)) : Option (List TGauss_row) :=
 Option.bind (loopO (m_slices_stableCmpFunc__gauss_row_L0 a1 a2) ((0, 20, a0))) fun z => (match z with  | (v11, v12) =>  (Option.bind (m_slices_insertionSortCmpFunc__gauss_row v12 v11 a1 a2) fun r17 =>  Option.bind (loopO (m_slices_stableCmpFunc__gauss_row_L1 a1) (20)) fun _ =>  (some (r17))))
theorem len_stable {a0 : List TGauss_row} {a1 : Int} {a2 : TGauss_row → TGauss_row → Option Int} {r : List TGauss_row} (h : m_slices_stableCmpFunc__gauss_row a0 a1 a2 = some r) : r.length = a0.length := by
  unfold m_slices_stableCmpFunc__gauss_row at h
  obtain ⟨⟨v11, v12⟩, hv, h⟩ := bs h
  obtain ⟨r16, h16, h⟩ := bs h
  obtain ⟨_, _, h⟩ := bs h
  cases h
  rw [len_ins h16]
  refine loopO_ind (P := fun a => a.2.2.length = a0.length) (Q := fun x => x.2.length = a0.length) (fun a a1 hb hp => ?_) (fun a x hb hp => ?_) hv rfl
  · obtain ⟨x, y, z⟩ := a
    unfold m_slices_stableCmpFunc__gauss_row_L0 at hb
    dsimp only at hp hb
    rcases ib hb with ⟨_, hb⟩ | ⟨_, hb⟩
    · obtain ⟨w, hw, hb⟩ := bs hb
      cases hb
      rw [len_ins hw]; exact hp
    · cases hb
  · obtain ⟨x', y, z⟩ := a
    unfold m_slices_stableCmpFunc__gauss_row_L0 at hb
    dsimp only at hp hb
    rcases ib hb with ⟨_, hb⟩ | ⟨_, hb⟩
    · obtain ⟨w, hw, hb⟩ := bs hb
      cases hb
    · cases hb; exact hp
noncomputable def m_slices_SortStableFunc_gauss_row (a0 : List TGauss_row) (a1 : (TGauss_row → TGauss_row → Option Int)) : Option (List TGauss_row) :=
 Option.bind (m_slices_stableCmpFunc__gauss_row a0 (a0.length : Int) a1) fun r1 =>  some (r1)
theorem len_sort {a0 : List TGauss_row} {a1 : TGauss_row → TGauss_row → Option Int} {r : List TGauss_row} (h : m_slices_SortStableFunc_gauss_row a0 a1 = some r) : r.length = a0.length := by
  unfold m_slices_SortStableFunc_gauss_row at h
  obtain ⟨v, hv, h⟩ := bs h
  cases h
  exact len_stable hv
noncomputable def m_gauss_Solve_L0 (a0 : List TTerm) : (Int × (List TGauss_row)) → Option ((Int × (List TGauss_row)) ⊕ (((List TGauss_row))))
 | (v12, v13) =>
 ifB (decide (v12 < (a0.length : Int)))  (Option.bind (gi a0 v12) fun v16 =>  Option.bind (m_term_Own v16) fun r17 =>  Option.bind (rq (decide ((v13 : List TGauss_row).length + ([(⟨r17, -1⟩ : TGauss_row)]).length ≤ 1000000))) fun _ =>  some (.inl (IntKind.wrap .i64 (v12 + 1), (v13 ++ ([(⟨r17, -1⟩ : TGauss_row)])))))  (some (.inr (v13)))
noncomputable def m_gauss_Solve_L1 (r21 : TGauss_system) (r23 : List TGauss_row) : ((List TTerm) × (List Int) × Int) → Option (((List TTerm) × (List Int) × Int) ⊕ (((List TTerm) × (List Int)) ⊕ ((List TTerm) × (List Int) × Int)))
 | (v36, v38, v40) =>
 ifB (decide (v40 < (r21.f0.length : Int)))  (Option.bind (rq (decide (0 ≤ v40))) fun _ =>  Option.bind (rq (decide (v40 < (r21.f0.length : Int)))) fun _ =>  Option.bind (gi r23 v40) fun v49 =>  Option.bind  (ifB (!decide (v49.f1 = (-1)))  (Option.bind (rq (decide (v36.length + ([v49.f0]).length ≤ 1000000))) fun _ =>  Option.bind (rq (decide (v38.length + ([v49.f1]).length ≤ 1000000))) fun _ =>  some (.inl ((v36 ++ ([v49.f0])), (v38 ++ ([v49.f1])))))  (ifB (!decide (v49.f0.f1.f0 = 0))  (Option.bind (some (.inr (.inr ([], [], 1)))) fun y => some (.inr y))  (some (.inl (v36, v38)))) : Option (((List TTerm) × (List Int)) ⊕ (((List TTerm) × (List Int) × Int) ⊕ (((List TTerm) × (List Int)) ⊕ ((List TTerm) × (List Int) × Int))))) fun z => (match z with  | .inl (v50, v52) =>  (some (.inl (v50, v52, IntKind.wrap .i64 (v40 + 1))))  | .inr y => some y))  (some (.inr (.inl (v36, v38))))
noncomputable def m_gauss_Solve (a0 : List TTerm) : Option ((List TTerm) × (List Int) × Int) :=
 Option.bind  (ifB (decide (400 < (a0.length : Int)))  (some (true))  (Option.bind (m_slices_ContainsFunc_api_Term a0 (fun x0 => m_gauss_Solve_1 x0)) fun r4 =>  some (r4)) : Option (Bool)) fun v1 =>  ifB v1  (some (([], [], 2)))  (Option.bind (loopO (m_gauss_Solve_L0 a0) ((0, []))) fun v14 =>  (Option.bind (m_gauss_system_solve (⟨v14, false⟩ : TGauss_system)) fun r21 =>  ifB r21.f1  (some (([], [], 2)))  (Option.bind (m_slices_SortStableFunc_gauss_row r21.f0 (fun x0 x1 => m_gauss_Solve_2 x0 x1)) fun r23 =>  Option.bind (loopO (m_gauss_Solve_L1 r21 r23) (([], [], 0))) fun z => (match z with  | .inl (v41, v43) =>  (some ((v41, v43, 0)))  | .inr r => (some r)))))
noncomputable def m_slices_Repeat_api_Rat (a0 : List TRat) (a1 : Int) : Option (List TRat) := match a0 with
 | [x] => Option.bind (rq (decide (a1 = 8))) fun _ => some (List.replicate 8 x)
 | _ => none
noncomputable def m_slices_IndexFunc_api_Row_L0 (a0 : List TRow) (a1 : (TRow → Option Bool)) : Int → Option ((Int) ⊕ ((Unit) ⊕ (Int)))
 | v4 =>
 ifB (decide (v4 < (a0.length : Int)))  (Option.bind (gi a0 v4) fun v6 =>  Option.bind (a1 v6) fun r7 =>  ifB r7  (some (.inr (.inr v4)))  (some (.inl (IntKind.wrap .i64 (v4 + 1)))))  (some (.inr (.inl ())))
noncomputable def m_slices_IndexFunc_api_Row (a0 : List TRow) (a1 : (TRow → Option Bool)) : Option Int :=
 Option.bind (loopO (m_slices_IndexFunc_api_Row_L0 a0 a1) (0)) fun z => (match z with  | .inl _ =>  (some (-1))  | .inr r => (some r))
noncomputable def m_slices_ContainsFunc_api_Row (a0 : List TRow) (a1 : (TRow → Option Bool)) : Option Bool :=
 Option.bind (m_slices_IndexFunc_api_Row a0 a1) fun r1 =>  some (decide (0 ≤ r1))
def m_slices_Clone_api_Row (l : List TRow) : Option (List TRow) := Option.bind (rq (decide (l.length ≤ 1000000))) fun _ => some l
noncomputable def m_slices_Clone_api_Row_A : Code := match Try.f47.body with
  | some (.seq _ (.seq (.seq _ r) _)) => r
  | _ => .skip
noncomputable def m_slices_Clone_api_Row_B : Code := match Try.f47.body with
  | some (.seq _ (.seq (.seq _ _) r)) => r
  | _ => .skip
noncomputable def m_bound_right (a0 : TRow) : Option Bool :=
 ifB (decide (0 ≤ a0.f0))  (ifB (decide (a0.f0 ≤ 2))  (Option.bind (m_term_Right a0.f1) fun r3 =>  some (r3))  (some (false)))  (some (false))
noncomputable def m_bound_engine_term (a0 : TBound_engine) (a1 : TTerm) (a2 : Int) : Option (TTerm × TBound_engine) :=
 ifB a0.f0  (some ((a1, (⟨true⟩ : TBound_engine))))  (some ((a1, (⟨(!decide (a2 = 0))⟩ : TBound_engine))))
noncomputable def m_bound_engine_rat (a0 : TBound_engine) (a1 : TRat) (a2 : Int) : Option (TRat × TBound_engine) :=
 ifB a0.f0  (some ((a1, (⟨true⟩ : TBound_engine))))  (some ((a1, (⟨(!decide (a2 = 0))⟩ : TBound_engine))))
noncomputable def m_bound_engine_plain_L0 (a2 : List TTerm) (a3 : List Int) : (Int × Bool × (List TRat) × Int × Int) → Option ((Int × Bool × (List TRat) × Int × Int) ⊕ ((Bool × (List TRat) × Int × Int)))
 | (v12, v13, v14, v15, v16) =>
 ifB (decide (v12 < (a2.length : Int)))  (Option.bind (gi a2 v12) fun v22 =>  Option.bind (gi a3 v12) fun v23 =>  Option.bind (m_term_At (⟨v14, (⟨v15, v16⟩ : TRat)⟩ : TTerm) v23) fun r24 =>  Option.bind  (ifB (!decide (r24.f0 = 0))  (some ((!v13)))  (some (false)) : Option (Bool)) fun v25 =>  Option.bind  (ifB v25  (Option.bind (m_term_Scale v22 (⟨IntKind.wrap .i64 (0 - r24.f0), r24.f1⟩ : TRat)) fun r36 =>  Option.bind (m_bound_engine_term (⟨v13⟩ : TBound_engine) r36.1 r36.2) fun r37 =>  Option.bind  (ifB (!r37.2.f0)  (Option.bind (m_term_Add (⟨v14, (⟨v15, v16⟩ : TRat)⟩ : TTerm) r37.1) fun r44 =>  Option.bind (m_bound_engine_term r37.2 r44.1 r44.2) fun r45 =>  some (r45.2.f0, r45.1.f0, r45.1.f1.f0, r45.1.f1.f1))  (some (r37.2.f0, v14, v15, v16)) : Option (Bool × (List TRat) × Int × Int)) fun z => (match z with  | (v38, v39, v40, v41) =>  (some (v38, v39, v40, v41))))  (some (v13, v14, v15, v16)) : Option (Bool × (List TRat) × Int × Int)) fun z => (match z with  | (v29, v30, v31, v32) =>  (some (.inl (IntKind.wrap .i64 (v12 + 1), v29, v30, v31, v32)))))  (some (.inr ((v13, v14, v15, v16))))
noncomputable def m_bound_engine_plain (a0 : TBound_engine) (a1 : TRow) (a2 : List TTerm) (a3 : List Int) : Option (TRow × TBound_engine) :=
 Option.bind (loopO (m_bound_engine_plain_L0 a2 a3) ((0, a0.f0, a1.f1.f0, a1.f1.f1.f0, a1.f1.f1.f1))) fun z => (match z with  | (v17, v18, v19, v20) =>  (some (((⟨a1.f0, (⟨v18, (⟨v19, v20⟩ : TRat)⟩ : TTerm)⟩ : TRow), (⟨v17⟩ : TBound_engine)))))
noncomputable def m_bound_engine_divide (a0 : TBound_engine) (a1 : TRow) (a2 : TRat) : Option (TRow × TBound_engine) :=
 Option.bind  (ifB (decide (a2.f0 < 0))  (some (IntKind.wrap .i64 (0 - a2.f0)))  (some (a2.f0)) : Option (Int)) fun v1 =>  Option.bind (m_rat_Div (⟨1, 1⟩ : TRat) (⟨v1, a2.f1⟩ : TRat)) fun r5 =>  Option.bind (m_bound_engine_rat a0 r5.1 r5.2) fun r6 =>  ifB (!r6.2.f0)  (Option.bind (m_term_Scale a1.f1 r6.1) fun r8 =>  Option.bind (m_bound_engine_term r6.2 r8.1 r8.2) fun r9 =>  some (((⟨a1.f0, r9.1⟩ : TRow), r9.2)))  (some ((a1, r6.2)))
noncomputable def m_bound_engine_drop_L0 (a1 : List TRow) (a2 : Int) : ((List TRow) × Int × Bool × (List TRow) × (List TRow)) → Option (((List TRow) × Int × Bool × (List TRow) × (List TRow)) ⊕ (((List TRow) × Bool × (List TRow) × (List TRow))))
 | (v18, v20, v21, v22, v24) =>
 ifB (decide (v20 < (a1.length : Int)))  (Option.bind (gi a1 v20) fun v34 =>  Option.bind (m_term_At v34.f1 a2) fun r35 =>  Option.bind  (ifB (decide (0 < r35.f0))  (Option.bind (m_bound_engine_divide (⟨v21⟩ : TBound_engine) v34 r35) fun r45 =>  Option.bind (rq (decide (v22.length + ([r45.1]).length ≤ 1000000))) fun _ =>  some (v18, r45.2.f0, (v22 ++ ([r45.1])), v24))  (Option.bind  (ifB (decide (r35.f0 < 0))  (Option.bind (m_bound_engine_divide (⟨v21⟩ : TBound_engine) v34 r35) fun r55 =>  Option.bind (rq (decide (v24.length + ([r55.1]).length ≤ 1000000))) fun _ =>  some (v18, r55.2.f0, (v24 ++ ([r55.1]))))  (Option.bind (rq (decide (v18.length + ([v34]).length ≤ 1000000))) fun _ =>  some ((v18 ++ ([v34])), v21, v24)) : Option ((List TRow) × Bool × (List TRow))) fun z => (match z with  | (v48, v50, v51) =>  (some (v48, v50, v22, v51)))) : Option ((List TRow) × Bool × (List TRow) × (List TRow))) fun z => (match z with  | (v36, v38, v39, v41) =>  (some (.inl (v36, IntKind.wrap .i64 (v20 + 1), v38, v39, v41)))))  (some (.inr ((v18, v21, v22, v24))))
noncomputable def m_bound_engine_drop_L2 (v31 : List TRow) (v85 : TRow) : ((List TRow) × Int × Bool) → Option (((List TRow) × Int × Bool) ⊕ (((List TRow) × Bool)))
 | (v95, v97, v98) =>
 ifB (decide (v97 < (v31.length : Int)))  (Option.bind (gi v31 v97) fun v103 =>  Option.bind (m_term_Add v85.f1 v103.f1) fun r104 =>  Option.bind (m_bound_engine_term (⟨v98⟩ : TBound_engine) r104.1 r104.2) fun r105 =>  Option.bind (rq (decide (v95.length + ([(⟨(if v85.f0 < v103.f0 then v103.f0 else v85.f0), r105.1⟩ : TRow)]).length ≤ 1000000))) fun _ =>  some (.inl ((v95 ++ ([(⟨(if v85.f0 < v103.f0 then v103.f0 else v85.f0), r105.1⟩ : TRow)])), IntKind.wrap .i64 (v97 + 1), r105.2.f0)))  (some (.inr ((v95, v98))))
noncomputable def m_bound_engine_drop_L1 (v29 : List TRow) (v31 : List TRow) : ((List TRow) × Int × Bool) → Option (((List TRow) × Int × Bool) ⊕ (((List TRow) × Bool)))
 | (v77, v79, v80) =>
 ifB (decide (v79 < (v29.length : Int)))  (Option.bind (gi v29 v79) fun v85 =>  Option.bind (loopO (m_bound_engine_drop_L2 v31 v85) ((v77, 0, v80))) fun z => (match z with  | (v99, v101) =>  (some (.inl (v99, IntKind.wrap .i64 (v79 + 1), v101)))))  (some (.inr ((v77, v80))))
noncomputable def m_bound_engine_drop (a0 : TBound_engine) (a1 : List TRow) (a2 : Int) : Option (TBound_stage × (List TRow) × TBound_engine) :=
 Option.bind (loopO (m_bound_engine_drop_L0 a1 a2) (([], 0, a0.f0, [], []))) fun z => (match z with  | (v26, v28, v29, v31) =>  (Option.bind  (ifB v28  (some (true))  (some (decide (400 < (IntKind.wrap .i64 ((v26.length : Int) + (IntKind.wrap .i64 ((v29.length : Int) * (v31.length : Int)))))))) : Option (Bool)) fun v63 =>  ifB v63  (some (((⟨v29, v31⟩ : TBound_stage), [], (⟨true⟩ : TBound_engine))))  (Option.bind (loopO (m_bound_engine_drop_L1 v29 v31) ((v26, 0, v28))) fun z => (match z with  | (v81, v83) =>  (some (((⟨v29, v31⟩ : TBound_stage), v81, (⟨v83⟩ : TBound_engine))))))))
noncomputable def m_bound_engine_edge_L0 (a1 : List TRow) (a2 : List TRat) (a3 : Bool) : (Int × Bool × Int × Int) → Option ((Int × Bool × Int × Int) ⊕ ((Bool × Int × Int) ⊕ (TRat × Bool × TBound_engine × (List TRat))))
 | (v10, v11, v12, v13) =>
 ifB (decide (v10 < (a1.length : Int)))  (Option.bind (gi a1 v10) fun v18 =>  Option.bind (m_term_Value v18.f1 a2) fun r19 =>  Option.bind (m_bound_engine_rat (⟨v11⟩ : TBound_engine) r19.1 r19.2) fun r20 =>  ifB r20.2.f0  (some (.inr (.inr ((⟨v12, v13⟩ : TRat), true, r20.2, a2))))  (Option.bind  (ifB a3  (some (IntKind.wrap .i64 (0 - r20.1.f0)))  (some (r20.1.f0)) : Option (Int)) fun v22 =>  Option.bind (m_rat_Compare (⟨v22, r20.1.f1⟩ : TRat) (⟨v12, v13⟩ : TRat)) fun r26 =>  Option.bind  (ifB (decide (v10 = 0))  (some (true))  (ifB a3  (ifB (decide (0 < r26))  (some (true))  (some (false)))  (some (decide (r26 < 0)))) : Option (Bool)) fun v27 =>  Option.bind  (ifB v27  (some (v22, r20.1.f1))  (some (v12, v13)) : Option (Int × Int)) fun z => (match z with  | (v33, v34) =>  (some (.inl (IntKind.wrap .i64 (v10 + 1), r20.2.f0, v33, v34))))))  (some (.inr (.inl (v11, v12, v13))))
noncomputable def m_bound_engine_edge (a0 : TBound_engine) (a1 : List TRow) (a2 : List TRat) (a3 : Bool) : Option (TRat × Bool × TBound_engine × (List TRat)) :=
 Option.bind (loopO (m_bound_engine_edge_L0 a1 a2 a3) ((0, a0.f0, 0, 0))) fun z => (match z with  | .inl (v14, v15, v16) =>  (some (((⟨v15, v16⟩ : TRat), decide (0 < (a1.length : Int)), (⟨v14⟩ : TBound_engine), a2)))  | .inr r => (some r))
theorem row_edge {a0 : TBound_engine} {a1 : List TRow} {a2 : List TRat} {a3 : Bool} {r : TRat × Bool × TBound_engine × List TRat} (h : m_bound_engine_edge a0 a1 a2 a3 = some r) : r.2.2.2 = a2 := by
  unfold m_bound_engine_edge at h
  obtain ⟨z, hl, h⟩ := bs h
  have key : ∀ y, z = .inr y → y.2.2.2 = a2 := by
    refine loopO_ind (P := fun _ => True) (Q := fun x => ∀ y, x = .inr y → y.2.2.2 = a2) (fun _ _ _ _ => trivial) (fun a x hb _ => ?_) hl trivial
    intro y hy
    subst hy
    obtain ⟨x1, x2, x3, x4⟩ := a
    unfold m_bound_engine_edge_L0 at hb
    dsimp only at hb
    rcases ib hb with ⟨_, hb⟩ | ⟨_, hb⟩
    · obtain ⟨_, _, hb⟩ := bs hb
      obtain ⟨_, _, hb⟩ := bs hb
      obtain ⟨_, _, hb⟩ := bs hb
      rcases ib hb with ⟨_, hb⟩ | ⟨_, hb⟩
      · cases hb; rfl
      · obtain ⟨_, _, hb⟩ := bs hb
        obtain ⟨_, _, hb⟩ := bs hb
        obtain ⟨_, _, hb⟩ := bs hb
        obtain ⟨⟨_, _⟩, _, hb⟩ := bs hb
        cases hb
    · cases hb
  rcases z with ⟨z1, z2, z3⟩ | z
  · cases h; rfl
  · cases h; exact key _ rfl
theorem len_edge {a0 : TBound_engine} {a1 : List TRow} {a2 : List TRat} {a3 : Bool} {r : TRat × Bool × TBound_engine × List TRat} (h : m_bound_engine_edge a0 a1 a2 a3 = some r) : r.2.2.2.length = a2.length := by rw [row_edge h]
noncomputable def m_bound_engine_choose (a0 : TBound_engine) (a1 : TBound_stage) (a2 : List TRat) : Option (TRat × TBound_engine × (List TRat)) :=
 Option.bind (m_bound_engine_edge a0 a1.f0 a2 true) fun r1 =>  Option.bind (m_bound_engine_edge r1.2.2.1 a1.f1 r1.2.2.2 false) fun r3 =>  Option.bind  (ifB r3.2.2.1.f0  (some (true))  (ifB (!r1.2.1)  (some ((!r3.2.1)))  (some (false))) : Option (Bool)) fun v5 =>  ifB v5  (some (((⟨0, 1⟩ : TRat), r3.2.2.1, r3.2.2.2)))  (ifB (!r3.2.1)  (Option.bind (m_rat_Add r1.1 (⟨1, 1⟩ : TRat)) fun r12 =>  Option.bind (m_bound_engine_rat r3.2.2.1 r12.1 r12.2) fun r13 =>  some ((r13.1, r13.2, r3.2.2.2)))  (ifB (!r1.2.1)  (Option.bind (m_rat_Sub r3.1 (⟨1, 1⟩ : TRat)) fun r15 =>  Option.bind (m_bound_engine_rat r3.2.2.1 r15.1 r15.2) fun r16 =>  some ((r16.1, r16.2, r3.2.2.2)))  (Option.bind (m_rat_Add r1.1 r3.1) fun r17 =>  Option.bind (m_bound_engine_rat r3.2.2.1 r17.1 r17.2) fun r18 =>  ifB r18.2.f0  (some ((r18.1, r18.2, r3.2.2.2)))  (Option.bind (m_rat_Mul r18.1 (⟨1, 2⟩ : TRat)) fun r20 =>  Option.bind (m_bound_engine_rat r18.2 r20.1 r20.2) fun r21 =>  some ((r21.1, r21.2, r3.2.2.2))))))
theorem row_choose {a0 : TBound_engine} {a1 : TBound_stage} {a2 : List TRat} {r : TRat × TBound_engine × List TRat} (h : m_bound_engine_choose a0 a1 a2 = some r) : r.2.2 = a2 := by
  unfold m_bound_engine_choose at h
  obtain ⟨r1, h1, h⟩ := bs h
  obtain ⟨r2, h2, h⟩ := bs h
  have e : r2.2.2.2 = a2 := (row_edge h2).trans (row_edge h1)
  obtain ⟨_, _, h⟩ := bs h
  rcases ib h with ⟨_, h⟩ | ⟨_, h⟩
  · cases h; exact e
  rcases ib h with ⟨_, h⟩ | ⟨_, h⟩
  · obtain ⟨_, _, h⟩ := bs h
    obtain ⟨_, _, h⟩ := bs h
    cases h; exact e
  rcases ib h with ⟨_, h⟩ | ⟨_, h⟩
  · obtain ⟨_, _, h⟩ := bs h
    obtain ⟨_, _, h⟩ := bs h
    cases h; exact e
  obtain ⟨_, _, h⟩ := bs h
  obtain ⟨_, _, h⟩ := bs h
  rcases ib h with ⟨_, h⟩ | ⟨_, h⟩
  · cases h; exact e
  obtain ⟨_, _, h⟩ := bs h
  obtain ⟨_, _, h⟩ := bs h
  cases h; exact e
theorem len_choose {a0 : TBound_engine} {a1 : TBound_stage} {a2 : List TRat} {r : TRat × TBound_engine × List TRat} (h : m_bound_engine_choose a0 a1 a2 = some r) : r.2.2.length = a2.length := by rw [row_choose h]
noncomputable def m_bound_engine_witness_L0 (a3 : List Int) (a1 : List TBound_stage) : (Int × Bool × (List TRat)) → Option ((Int × Bool × (List TRat)) ⊕ ((Bool × (List TRat))))
 | (v9, v10, v11) =>
 Option.bind  (ifB (decide (0 ≤ v9))  (some ((!v10)))  (some (false)) : Option (Bool)) fun v14 =>  ifB v14  (Option.bind (m_slices_Contains_int a3 v9) fun r19 =>  Option.bind  (ifB (!r19)  (Option.bind (gi a1 v9) fun v24 =>  Option.bind (m_bound_engine_choose (⟨v10⟩ : TBound_engine) v24 v11) fun r25 =>  Option.bind (rq (decide (0 ≤ v9))) fun _ =>  Option.bind (rq (decide (v9 < (v11.length : Int)))) fun _ =>  Option.bind (gi r25.2.2 v9) fun v29 =>  some (r25.2.1.f0, (r25.2.2.set v9.toNat r25.1)))  (some (v10, v11)) : Option (Bool × (List TRat))) fun z => (match z with  | (v20, v21) =>  (some (.inl (IntKind.wrap .i64 (v9 - 1), v20, v21)))))  (some (.inr ((v10, v11))))
noncomputable def m_bound_engine_witness_L1 (a2 : List TTerm) (a3 : List Int) : (Int × Bool × (List TRat)) → Option ((Int × Bool × (List TRat)) ⊕ ((Bool × (List TRat))))
 | (v39, v40, v41) =>
 ifB (decide (v39 < (a2.length : Int)))  (Option.bind (gi a2 v39) fun v46 =>  ifB v40  (some (.inr ((v40, v41))))  (Option.bind (m_term_Value v46 v41) fun r48 =>  Option.bind (m_bound_engine_rat (⟨v40⟩ : TBound_engine) r48.1 r48.2) fun r49 =>  Option.bind (gi a3 v39) fun v50 =>  Option.bind (rq (decide (0 ≤ v50))) fun _ =>  Option.bind (rq (decide (v50 < (v41.length : Int)))) fun _ =>  Option.bind (gi v41 v50) fun v53 =>  some (.inl (IntKind.wrap .i64 (v39 + 1), r49.2.f0, (v41.set v50.toNat (⟨IntKind.wrap .i64 (0 - r49.1.f0), r49.1.f1⟩ : TRat))))))  (some (.inr ((v40, v41))))
noncomputable def m_bound_engine_witness (a0 : TBound_engine) (a1 : List TBound_stage) (a2 : List TTerm) (a3 : List Int) : Option ((List TRat) × TBound_engine) :=
 Option.bind (m_slices_Repeat_api_Rat ([(⟨0, 1⟩ : TRat)]) 8) fun r1 =>  Option.bind (loopO (m_bound_engine_witness_L0 a3 a1) ((7, a0.f0, r1))) fun z => (match z with  | (v12, v13) =>  (Option.bind (loopO (m_bound_engine_witness_L1 a2 a3) ((0, v12, v13))) fun z => (match z with  | (v43, v44) =>  (some ((v44, (⟨v43⟩ : TBound_engine)))))))
noncomputable def m_bound_engine_solve_1 (a0 : TRow) : Option Bool :=
 ifB (decide (a0.f1.f1.f0 < 0))  (some (true))  (ifB (decide (a0.f0 = 2))  (some (decide (a0.f1.f1.f0 = 0)))  (some (false)))
noncomputable def m_bound_engine_solve_L0 (a1 : List TRow) : ((List TTerm) × Int) → Option (((List TTerm) × Int) ⊕ (((List TTerm))))
 | (v8, v10) =>
 ifB (decide (v10 < (a1.length : Int)))  (Option.bind (gi a1 v10) fun v14 =>  Option.bind  (ifB (decide (v14.f0 = 0))  (Option.bind (rq (decide (v8.length + ([v14.f1]).length ≤ 1000000))) fun _ =>  some ((v8 ++ ([v14.f1]))))  (some (v8)) : Option ((List TTerm))) fun v15 =>  some (.inl (v15, IntKind.wrap .i64 (v10 + 1))))  (some (.inr (v8)))
noncomputable def m_bound_engine_solve_L1 (a1 : List TRow) (r23 : (List TTerm) × (List Int) × Int) : ((List TRow) × Int × Bool) → Option (((List TRow) × Int × Bool) ⊕ (((List TRow) × Bool)))
 | (v34, v36, v37) =>
 ifB (decide (v36 < (a1.length : Int)))  (Option.bind (gi a1 v36) fun v42 =>  Option.bind  (ifB (!decide (v42.f0 = 0))  (Option.bind (m_term_Own v42.f1) fun r48 =>  Option.bind (m_bound_engine_plain (⟨v37⟩ : TBound_engine) (⟨v42.f0, r48⟩ : TRow) r23.1 r23.2.1) fun r49 =>  Option.bind (rq (decide (v34.length + ([r49.1]).length ≤ 1000000))) fun _ =>  some ((v34 ++ ([r49.1])), r49.2.f0))  (some (v34, v37)) : Option ((List TRow) × Bool)) fun z => (match z with  | (v43, v45) =>  (some (.inl (v43, IntKind.wrap .i64 (v36 + 1), v45)))))  (some (.inr ((v34, v37))))
noncomputable def m_bound_engine_solve_L2  : ((List TRow) × (List TBound_stage) × Int × Bool) → Option (((List TRow) × (List TBound_stage) × Int × Bool) ⊕ (((List TRow) × (List TBound_stage) × Bool)))
 | (v65, v66, v68, v69) =>
 Option.bind  (ifB (decide (v68 < 8))  (some ((!v69)))  (some (false)) : Option (Bool)) fun v74 =>  ifB v74  (Option.bind (m_bound_engine_drop (⟨v69⟩ : TBound_engine) v65 v68) fun r79 =>  Option.bind (rq (decide (v66.length + ([r79.1]).length ≤ 1000000))) fun _ =>  some (.inl (r79.2.1, (v66 ++ ([r79.1])), IntKind.wrap .i64 (v68 + 1), r79.2.2.f0)))  (some (.inr ((v65, v66, v69))))
noncomputable def m_bound_engine_solve (a0 : TBound_engine) (a1 : List TRow) : Option ((List TRat) × Int × TBound_engine) :=
 Option.bind (loopO (m_bound_engine_solve_L0 a1) (([], 0))) fun v11 =>  (Option.bind (m_gauss_Solve v11) fun r23 =>  ifB (!decide (r23.2.2 = 0))  (some (([], r23.2.2, a0)))  (Option.bind (loopO (m_bound_engine_solve_L1 a1 r23) (([], 0, a0.f0))) fun z => (match z with  | (v38, v40) =>  (Option.bind (loopO (m_bound_engine_solve_L2) ((v38, [], 0, v40))) fun z => (match z with  | (v70, v71, v73) =>  (ifB v73  (some (([], 2, (⟨v73⟩ : TBound_engine))))  (Option.bind (m_slices_ContainsFunc_api_Row v70 (fun x0 => m_bound_engine_solve_1 x0)) fun r84 =>  ifB r84  (some (([], 1, (⟨v73⟩ : TBound_engine))))  (Option.bind (m_bound_engine_witness (⟨v73⟩ : TBound_engine) v71 r23.1 r23.2.1) fun r86 =>  ifB r86.2.f0  (some (([], 2, r86.2)))  (some ((r86.1, 0, r86.2)))))))))))
noncomputable def m_bound_Solve_1 (a0 : TRow) : Option Bool :=
 Option.bind (m_bound_right a0) fun r1 =>  some ((!r1))
noncomputable def m_bound_Solve (a0 : List TRow) : Option ((List TRat) × Int) :=
 Option.bind  (ifB (decide (400 < (a0.length : Int)))  (some (true))  (Option.bind (m_slices_ContainsFunc_api_Row a0 (fun x0 => m_bound_Solve_1 x0)) fun r4 =>  some (r4)) : Option (Bool)) fun v1 =>  ifB v1  (some (([], 2)))  (Option.bind (m_bound_engine_solve (⟨false⟩ : TBound_engine) a0) fun r7 =>  some ((r7.1, r7.2.1)))
noncomputable def m_bound_never (a0 : List TRow) (a1 : TTerm) (a2 : Int) : Option Int :=
 Option.bind (m_term_Scale a1 (⟨-1, 1⟩ : TRat)) fun r1 =>  ifB (!decide (r1.2 = 0))  (some (2))  (Option.bind (m_slices_Clone_api_Row a0) fun r3 =>  Option.bind (rq (decide (r3.length + ([(⟨a2, r1.1⟩ : TRow)]).length ≤ 1000000))) fun _ =>  Option.bind (m_bound_Solve (r3 ++ ([(⟨a2, r1.1⟩ : TRow)]))) fun r7 =>  ifB (decide (r7.2 = 1))  (some (0))  (ifB (decide (r7.2 = 0))  (some (1))  (some (2))))
noncomputable def m_bound_Entails (a0 : List TRow) (a1 : TRow) : Option Int :=
 ifB (decide (a1.f0 = 1))  (Option.bind (m_bound_never a0 a1.f1 2) fun r2 =>  some (r2))  (ifB (decide (a1.f0 = 2))  (Option.bind (m_bound_never a0 a1.f1 1) fun r4 =>  some (r4))  (ifB (decide (a1.f0 = 0))  (Option.bind (m_bound_never a0 a1.f1 2) fun r6 =>  ifB (!decide (r6 = 0))  (some (r6))  (Option.bind (m_term_Scale a1.f1 (⟨-1, 1⟩ : TRat)) fun r8 =>  ifB (!decide (r8.2 = 0))  (some (2))  (Option.bind (m_bound_never a0 r8.1 2) fun r10 =>  some (r10))))  (some (2))))
def m_slices_Clone_uint32 (l : List Int) : Option (List Int) := Option.bind (rq (decide (l.length ≤ 1000000))) fun _ => some l
noncomputable def m_slices_Clone_uint32_A : Code := match Try.f30.body with
  | some (.seq _ (.seq (.seq _ r) _)) => r
  | _ => .skip
noncomputable def m_slices_Clone_uint32_B : Code := match Try.f30.body with
  | some (.seq _ (.seq (.seq _ _) r)) => r
  | _ => .skip
noncomputable def m_ref15_frac (a0 : Int) (a1 : Int) : Option TRat :=
 some ((⟨a0, a1⟩ : TRat))
noncomputable def m_ref15_Own  : Option TPerm :=
 Option.bind (m_ref15_frac 1 1) fun r1 =>  some ((⟨0, r1, -1, 0⟩ : TPerm))
noncomputable def m_perm_one  : Option TRat :=
 some ((⟨1, 1⟩ : TRat))
noncomputable def m_perm_half  : Option TRat :=
 some ((⟨1, 2⟩ : TRat))
noncomputable def m_perm_left (a0 : Int) (a1 : Int) : Option (Int × Bool) :=
 Option.bind  (ifB (decide (a0 < 0))  (some (true))  (some (decide (4 < a0))) : Option (Bool)) fun v1 =>  ifB v1  (some ((0, false)))  (Option.bind  (ifB (decide (a1 = 1))  (some (decide (a0 ≤ 1)))  (some (false)) : Option (Bool)) fun v6 =>  ifB v6  (some ((4, true)))  (Option.bind  (ifB (decide (a1 = 4))  (some (decide (a0 ≤ 1)))  (some (false)) : Option (Bool)) fun v11 =>  ifB v11  (some ((1, true)))  (Option.bind  (ifB (decide (a1 = 2))  (some (decide (a0 = 0)))  (some (false)) : Option (Bool)) fun v16 =>  Option.bind  (ifB v16  (some (v16))  (Option.bind  (ifB (decide (a1 = 3))  (some (decide (a0 = 0)))  (some (false)) : Option (Bool)) fun v23 =>  some (v23)) : Option (Bool)) fun v20 =>  ifB v20  (some ((a1, true)))  (Option.bind  (ifB (decide (a1 = a0))  (some (decide (1 < a0)))  (some (false)) : Option (Bool)) fun v29 =>  Option.bind  (ifB v29  (some (v29))  (ifB (decide (a1 = 4))  (some (decide (a0 = 2)))  (some (false))) : Option (Bool)) fun v33 =>  ifB v33  (some ((a0, true)))  (some ((0, false)))))))
noncomputable def m_perm_parts (a0 : TRat) (a1 : TRat) : Option (TRat × TRat × Int) :=
 Option.bind (m_perm_one) fun r1 =>  Option.bind (m_rat_Sub r1 a1) fun r2 =>  ifB (!decide (r2.2 = 0))  (some ((r2.1, a1, r2.2)))  (Option.bind (m_rat_Mul a0 r2.1) fun r4 =>  ifB (!decide (r4.2 = 0))  (some ((r4.1, a1, r4.2)))  (Option.bind (m_rat_Mul a0 a1) fun r6 =>  some ((r4.1, r6.1, r6.2))))
noncomputable def m_perm_Split (a0 : TPerm) (a1 : Int) (a2 : TRat) (a3 : Int) : Option (TPerm × TPerm × Int) :=
 Option.bind (m_perm_left a0.f0 a1) fun r1 =>  Option.bind  (ifB (decide (a0.f0 = 0))  (some ((!decide (a1 = 3))))  (some (false)) : Option (Bool)) fun v2 =>  Option.bind  (ifB (!r1.2)  (some (true))  (Option.bind (m_rat_Right a0.f1) fun r9 =>  ifB (!r9)  (some (true))  (Option.bind (m_rat_Right a2) fun r11 =>  ifB (!r11)  (some (true))  (ifB (decide (a2.f0 ≤ 0))  (some (true))  (ifB (decide (a2.f1 ≤ a2.f0))  (some (true))  (some ((!(v2 == (!decide (a3 = 0)))))))))) : Option (Bool)) fun v6 =>  ifB v6  (some (((⟨0, (⟨0, 0⟩ : TRat), 0, 0⟩ : TPerm), (⟨0, (⟨0, 0⟩ : TRat), 0, 0⟩ : TPerm), 2)))  (Option.bind (m_perm_parts a0.f1 a2) fun r17 =>  ifB (!decide (r17.2.2 = 0))  (some (((⟨0, (⟨0, 0⟩ : TRat), 0, 0⟩ : TPerm), (⟨0, (⟨0, 0⟩ : TRat), 0, 0⟩ : TPerm), r17.2.2)))  (Option.bind  (ifB (!v2)  (some (a0.f3))  (some (a3)) : Option (Int)) fun v19 =>  some (((⟨r1.1, r17.1, a0.f2, v19⟩ : TPerm), (⟨a1, r17.2.1, a0.f2, v19⟩ : TPerm), 0))))
noncomputable def m_perm_below (a0 : Int) (a1 : Int) : Option Bool :=
 some (decide ((andNotI .u32 a0 a1) = 0))
noncomputable def m_perm_fits (a0 : TPerm) (a1 : TContract) : Option Bool :=
 Option.bind  (ifB (decide (a0.f0 = 0))  (some (true))  (some (decide (a0.f0 = 3))) : Option (Bool)) fun v1 =>  ifB v1  (some (true))  (ifB (decide (a1.f3 = 2))  (some (decide (a0.f3 = a1.f7)))  (ifB (decide (a1.f3 = 1))  (Option.bind (m_perm_below a1.f7 a0.f3) fun r8 =>  some (r8))  (Option.bind (m_perm_below a0.f3 a1.f7) fun r9 =>  some (r9))))
noncomputable def m_perm_Lend (a0 : TPerm) (a1 : TContract) : Option (TPerm × Bool × TPerm × Int) :=
 Option.bind  (ifB a1.f1  (ifB (decide (a1.f3 = 0))  (some (decide (a0.f0 = 0)))  (some (false)))  (some (false)) : Option (Bool)) fun v1 =>  ifB v1  (some (((⟨0, (⟨0, 0⟩ : TRat), 0, 0⟩ : TPerm), false, a0, 0)))  (Option.bind  (ifB (decide (a0.f0 = 0))  (some ((!decide (a1.f3 = 3))))  (some (false)) : Option (Bool)) fun v7 =>  Option.bind  (ifB v7  (some (a1.f7))  (some (0)) : Option (Int)) fun v11 =>  Option.bind (m_perm_half) fun r15 =>  Option.bind (m_perm_Split a0 a1.f3 r15 v11) fun r16 =>  Option.bind  (ifB (decide (r16.2.2 = 0))  (ifB (!a1.f1)  (some (true))  (Option.bind (m_perm_fits a0 a1) fun r21 =>  ifB (!r21)  (some (true))  (ifB (decide (a1.f3 = 0))  (some (true))  (some ((!a1.f1))))))  (ifB (decide (a1.f3 = 0))  (some (true))  (some ((!a1.f1)))) : Option (Bool)) fun v17 =>  Option.bind  (ifB v17  (some (2))  (some (r16.2.2)) : Option (Int)) fun v26 =>  ifB (!decide (v26 = 0))  (some (((⟨0, (⟨0, 0⟩ : TRat), 0, 0⟩ : TPerm), false, (⟨0, (⟨0, 0⟩ : TRat), 0, 0⟩ : TPerm), v26)))  (ifB (!decide (a1.f3 = 3))  (some ((r16.1, true, (⟨r16.2.1.f0, r16.2.1.f1, r16.2.1.f2, a1.f7⟩ : TPerm), 0)))  (some ((r16.1, true, r16.2.1, 0)))))
noncomputable def m_perm_Enough_1 (a0 : TRat) (a1 : TRat) : Option TTerm :=
 some ((⟨[a0], a1⟩ : TTerm))
noncomputable def m_perm_Enough_2 (a0 : TRat) : Option TRat :=
 some ((⟨IntKind.wrap .i64 (0 - a0.f0), a0.f1⟩ : TRat))
noncomputable def m_perm_Enough (a0 : TPerm) (a1 : TRat) (a2 : TRat) : Option Int :=
 Option.bind (m_perm_one) fun r1 =>  Option.bind (m_perm_one) fun r2 =>  Option.bind (m_perm_Enough_2 r2) fun r3 =>  Option.bind (m_perm_Enough_1 r1 r3) fun r4 =>  Option.bind  (ifB (!decide (a0.f2 = (-1)))  (Option.bind (m_perm_one) fun r8 =>  Option.bind (m_perm_Enough_1 r8 (⟨0, 1⟩ : TRat)) fun r9 =>  Option.bind (m_perm_one) fun r10 =>  Option.bind (m_perm_Enough_2 r10) fun r11 =>  Option.bind (m_perm_one) fun r12 =>  Option.bind (m_perm_Enough_1 r11 r12) fun r13 =>  Option.bind (m_perm_one) fun r14 =>  Option.bind (m_perm_Enough_2 a2) fun r15 =>  Option.bind (m_perm_Enough_1 r14 r15) fun r16 =>  some ([(⟨2, r9⟩ : TRow), (⟨1, r13⟩ : TRow), (⟨1, r16⟩ : TRow)]))  (some ([(⟨0, r4⟩ : TRow)])) : Option ((List TRow))) fun v5 =>  Option.bind (m_perm_Enough_2 a1) fun r18 =>  Option.bind (m_perm_Enough_1 a0.f1 r18) fun r19 =>  Option.bind (m_bound_Entails v5 (⟨1, r19⟩ : TRow)) fun r20 =>  some (r20)
noncomputable def m_lend_caller_least (a0 : TLend_caller) (a1 : Int) : Option (TRat × TLend_caller) :=
 Option.bind  (ifB (decide (a1 < 0))  (some (true))  (some (decide ((a0.f4.length : Int) ≤ a1))) : Option (Bool)) fun v1 =>  ifB v1  (some (((⟨0, 1⟩ : TRat), a0)))  (Option.bind (gi a0.f4 a1) fun v6 =>  some ((v6, a0)))
theorem same_least {a0 : TLend_caller} {a1 : Int} {r : TRat × TLend_caller} (h : m_lend_caller_least a0 a1 = some r) : r.2 = a0 := by
  unfold m_lend_caller_least at h
  obtain ⟨_, _, h⟩ := bs h
  rcases ib h with ⟨_, h⟩ | ⟨_, h⟩
  · cases h; rfl
  · obtain ⟨_, _, h⟩ := bs h
    cases h; rfl
theorem len_least1 {a0 : TLend_caller} {a1 : Int} {r : TRat × TLend_caller} (h : m_lend_caller_least a0 a1 = some r) : r.2.f1.length = a0.f1.length := by rw [same_least h]
theorem len_least3 {a0 : TLend_caller} {a1 : Int} {r : TRat × TLend_caller} (h : m_lend_caller_least a0 a1 = some r) : r.2.f3.length = a0.f3.length := by rw [same_least h]
noncomputable def m_lend_caller_state (a0 : TLend_caller) (a1 : Int) (a2 : TContract) : Option (Int × TLend_caller) :=
 Option.bind (gi a0.f0 a1) fun v1 =>  Option.bind  (ifB (decide (a2.f3 = 2))  (some (true))  (some (decide (a2.f3 = 4))) : Option (Bool)) fun v2 =>  Option.bind  (ifB (decide (a2.f3 = 0))  (some (true))  (some (decide (a2.f3 = 1))) : Option (Bool)) fun v6 =>  Option.bind  (ifB v6  (Option.bind (rq (decide (0 ≤ a1))) fun _ =>  Option.bind (rq (decide (a1 < (a0.f3.length : Int)))) fun _ =>  Option.bind (gi a0.f3 a1) fun v16 =>  some ((a0.f3.set a1.toNat a2.f6)))  (Option.bind  (ifB (decide (a2.f3 = 2))  (some (decide (v1.f0 = 0)))  (some (false)) : Option (Bool)) fun v17 =>  Option.bind  (ifB v17  (Option.bind (rq (decide (0 ≤ a1))) fun _ =>  Option.bind (rq (decide (a1 < (a0.f3.length : Int)))) fun _ =>  Option.bind (gi a0.f3 a1) fun v27 =>  some ((a0.f3.set a1.toNat a2.f7)))  (some (a0.f3)) : Option ((List Int))) fun v21 =>  some (v21)) : Option ((List Int))) fun v10 =>  ifB (!v2)  (Option.bind (gi a0.f2 a1) fun v31 =>  ifB (!decide ((andNotI .u32 v31 a2.f5) = 0))  (some ((10, (⟨a0.f0, a0.f1, a0.f2, v10, a0.f4⟩ : TLend_caller))))  (ifB v2  (none)  (some ((0, (⟨a0.f0, a0.f1, a0.f2, v10, a0.f4⟩ : TLend_caller))))))  (ifB v2  (ifB (decide (v1.f0 = 0))  (Option.bind (gi a0.f2 a1) fun v36 =>  ifB (!decide ((andNotI .u32 v36 a2.f7) = 0))  (some ((10, (⟨a0.f0, a0.f1, a0.f2, v10, a0.f4⟩ : TLend_caller))))  (some ((0, (⟨a0.f0, a0.f1, a0.f2, v10, a0.f4⟩ : TLend_caller)))))  (some ((0, (⟨a0.f0, a0.f1, a0.f2, v10, a0.f4⟩ : TLend_caller)))))  (none))
structure Stays (a b : TLend_caller) : Prop where
  f0 : b.f0 = a.f0
  f1 : b.f1 = a.f1
  f2 : b.f2 = a.f2
  f4 : b.f4 = a.f4
  len : b.f3.length = a.f3.length
theorem stays_state {a0 : TLend_caller} {a1 : Int} {a2 : TContract} {r : Int × TLend_caller} (h : m_lend_caller_state a0 a1 a2 = some r) : Stays a0 r.2 := by
  unfold m_lend_caller_state at h
  obtain ⟨_, _, h⟩ := bs h
  obtain ⟨_, _, h⟩ := bs h
  obtain ⟨_, _, h⟩ := bs h
  obtain ⟨v10, h10, h⟩ := bs h
  have e : v10.length = a0.f3.length := by
    rcases ib h10 with ⟨_, h10⟩ | ⟨_, h10⟩
    · obtain ⟨_, _, h10⟩ := bs h10
      obtain ⟨_, _, h10⟩ := bs h10
      obtain ⟨_, _, h10⟩ := bs h10
      cases h10; simp
    · obtain ⟨_, _, h10⟩ := bs h10
      obtain ⟨_, h11, h10⟩ := bs h10
      cases h10
      rcases ib h11 with ⟨_, h11⟩ | ⟨_, h11⟩
      · obtain ⟨_, _, h11⟩ := bs h11
        obtain ⟨_, _, h11⟩ := bs h11
        obtain ⟨_, _, h11⟩ := bs h11
        cases h11; simp
      · cases h11; rfl
  have fin : ∀ {x : Int} {r : Int × TLend_caller}, some (x, (⟨a0.f0, a0.f1, a0.f2, v10, a0.f4⟩ : TLend_caller)) = some r → Stays a0 r.2 := fun h => by cases h; exact ⟨rfl, rfl, rfl, rfl, e⟩
  rcases ib h with ⟨_, h⟩ | ⟨_, h⟩
  · obtain ⟨_, _, h⟩ := bs h
    rcases ib h with ⟨_, h⟩ | ⟨_, h⟩
    · exact fin h
    · rcases ib h with ⟨_, h⟩ | ⟨_, h⟩
      · cases h
      · exact fin h
  · rcases ib h with ⟨_, h⟩ | ⟨_, h⟩
    · rcases ib h with ⟨_, h⟩ | ⟨_, h⟩
      · obtain ⟨_, _, h⟩ := bs h
        rcases ib h with ⟨_, h⟩ | ⟨_, h⟩
        · exact fin h
        · exact fin h
      · exact fin h
    · cases h
theorem len_state1 {a0 : TLend_caller} {a1 : Int} {a2 : TContract} {r : Int × TLend_caller} (h : m_lend_caller_state a0 a1 a2 = some r) : r.2.f1.length = a0.f1.length := by rw [(stays_state h).f1]
theorem len_state3 {a0 : TLend_caller} {a1 : Int} {a2 : TContract} {r : Int × TLend_caller} (h : m_lend_caller_state a0 a1 a2 = some r) : r.2.f3.length = a0.f3.length := (stays_state h).len
noncomputable def m_lend_caller_lent (a0 : TLend_caller) (a1 : Int) (a2 : TContract) : Option (Int × TLend_caller) :=
 Option.bind  (ifB (decide (a1 < 0))  (some (true))  (ifB (decide ((a0.f1.length : Int) ≤ a1))  (some (true))  (ifB (decide ((a0.f2.length : Int) ≤ a1))  (some (true))  (Option.bind (rq (decide (0 ≤ a1))) fun _ =>  Option.bind (rq (decide (a1 < (a0.f1.length : Int)))) fun _ =>  Option.bind (gi a0.f1 a1) fun v9 =>  some ((!v9.f1))))) : Option (Bool)) fun v1 =>  ifB v1  (some ((13, a0)))  (Option.bind (rq (decide (0 ≤ a1))) fun _ =>  Option.bind (rq (decide (a1 < (a0.f1.length : Int)))) fun _ =>  Option.bind (gi a0.f1 a1) fun v15 =>  Option.bind (m_perm_Lend v15.f0 a2) fun r16 =>  ifB (decide (r16.2.2.2 = 3))  (some ((16, a0)))  (ifB (!decide (r16.2.2.2 = 0))  (some ((13, a0)))  (Option.bind (m_lend_caller_least a0 r16.2.2.1.f2) fun r19 =>  Option.bind (m_perm_Enough r16.2.2.1 a2.f4 r19.1) fun r22 =>  ifB (decide (r22 = 1))  (some ((13, r19.2)))  (ifB (decide (r22 = 2))  (some ((16, r19.2)))  (Option.bind (gi r19.2.f1 a1) fun v25 =>  Option.bind (m_lend_caller_state (⟨r19.2.f0, (r19.2.f1.set a1.toNat (⟨r16.1, r16.2.1⟩ : TLend_left)), r19.2.f2, r19.2.f3, r19.2.f4⟩ : TLend_caller) a1 a2) fun r26 =>  some ((r26.1, r26.2)))))))
theorem len_lent {a0 : TLend_caller} {a1 : Int} {a2 : TContract} {r : Int × TLend_caller} (h : m_lend_caller_lent a0 a1 a2 = some r) : r.2.f1.length = a0.f1.length ∧ r.2.f3.length = a0.f3.length := by
  unfold m_lend_caller_lent at h
  obtain ⟨_, _, h⟩ := bs h
  rcases ib h with ⟨_, h⟩ | ⟨_, h⟩
  · cases h; exact ⟨rfl, rfl⟩
  obtain ⟨_, _, h⟩ := bs h
  obtain ⟨_, _, h⟩ := bs h
  obtain ⟨_, _, h⟩ := bs h
  obtain ⟨_, _, h⟩ := bs h
  rcases ib h with ⟨_, h⟩ | ⟨_, h⟩
  · cases h; exact ⟨rfl, rfl⟩
  rcases ib h with ⟨_, h⟩ | ⟨_, h⟩
  · cases h; exact ⟨rfl, rfl⟩
  obtain ⟨r19, h19, h⟩ := bs h
  have e := same_least h19
  obtain ⟨_, _, h⟩ := bs h
  rcases ib h with ⟨_, h⟩ | ⟨_, h⟩
  · cases h; rw [e]; exact ⟨rfl, rfl⟩
  rcases ib h with ⟨_, h⟩ | ⟨_, h⟩
  · cases h; rw [e]; exact ⟨rfl, rfl⟩
  obtain ⟨_, _, h⟩ := bs h
  obtain ⟨r26, h26, h⟩ := bs h
  cases h
  have s := stays_state h26
  refine ⟨?_, ?_⟩
  · show r26.2.f1.length = _
    rw [s.f1, List.length_set, e]
  · show r26.2.f3.length = _
    rw [s.len, e]
theorem len_lent1 {a0 : TLend_caller} {a1 : Int} {a2 : TContract} {r : Int × TLend_caller} (h : m_lend_caller_lent a0 a1 a2 = some r) : r.2.f1.length = a0.f1.length := (len_lent h).1
theorem len_lent3 {a0 : TLend_caller} {a1 : Int} {a2 : TContract} {r : Int × TLend_caller} (h : m_lend_caller_lent a0 a1 a2 = some r) : r.2.f3.length = a0.f3.length := (len_lent h).2
noncomputable def m_lend_Call_L0 (a0 : List TPerm) : (Int × (List TLend_left)) → Option ((Int × (List TLend_left)) ⊕ (((List TLend_left))))
 | (v7, v8) =>
 ifB (decide (v7 < (a0.length : Int)))  (Option.bind (gi a0 v7) fun v11 =>  Option.bind (rq (decide ((v8 : List TLend_left).length + ([(⟨v11, true⟩ : TLend_left)]).length ≤ 1000000))) fun _ =>  some (.inl (IntKind.wrap .i64 (v7 + 1), (v8 ++ ([(⟨v11, true⟩ : TLend_left)])))))  (some (.inr (v8)))
noncomputable def m_lend_Call_L1 (v15 : List TContract) (a3 : List Int) : ((List TDiag) × Int × (List Int) × (List TPerm) × (List Int) × (List TRat) × (List TLend_left)) → Option (((List TDiag) × Int × (List Int) × (List TPerm) × (List Int) × (List TRat) × (List TLend_left)) ⊕ (((List TDiag) × (List Int) × (List TPerm) × (List Int) × (List TRat) × (List TLend_left))))
 | (v33, v35, v36, v37, v38, v39, v40) =>
 ifB (decide (v35 < (v15.length : Int)))  (Option.bind (gi v15 v35) fun v49 =>  ifB (!v49.f1)  (some (.inl (v33, IntKind.wrap .i64 (v35 + 1), v36, v37, v38, v39, v40)))  (Option.bind (gi a3 v35) fun v51 =>  Option.bind (m_lend_caller_lent (⟨v37, v40, v38, v36, v39⟩ : TLend_caller) v51 v49) fun r52 =>  Option.bind  (ifB (!decide (r52.1 = 0))  (Option.bind (rq (decide (v33.length + ([(⟨r52.1, v35, v49.f0⟩ : TDiag)]).length ≤ 1000000))) fun _ =>  some ((v33 ++ ([(⟨r52.1, v35, v49.f0⟩ : TDiag)]))))  (some (v33)) : Option ((List TDiag))) fun v55 =>  some (.inl (v55, IntKind.wrap .i64 (v35 + 1), r52.2.f3, r52.2.f0, r52.2.f2, r52.2.f4, r52.2.f1))))  (some (.inr ((v33, v36, v37, v38, v39, v40))))
noncomputable def m_lend_Call (a0 : List TPerm) (a1 : List Int) (a2 : List TRat) (a3 : List Int) (a4 : List TContract) : Option ((List Int) × (List TDiag)) :=
 Option.bind (m_slices_Clone_uint32 a1) fun r1 =>  Option.bind (loopO (m_lend_Call_L0 a0) ((0, []))) fun v9 =>  (Option.bind (subL a4 0 (if (a3.length : Int) < (a4.length : Int) then (a3.length : Int) else (a4.length : Int))) fun v15 =>  Option.bind (loopO (m_lend_Call_L1 v15 a3) (([], 0, r1, a0, a1, a2, v9))) fun z => (match z with  | (v41, v43, v44, v45, v46, v47) =>  (some ((v43, v41)))))
noncomputable def m_law18_awake  : Option Bool :=
 Option.bind (m_ref15_Own) fun r1 =>  Option.bind (m_lend_Call ([r1]) ([1]) ([]) ([0, 0]) ([(⟨(⟨#[120]⟩ : ByteArray), true, ByteArray.empty, 0, (⟨0, 1⟩ : TRat), 1, 2, 0⟩ : TContract), (⟨(⟨#[120]⟩ : ByteArray), true, ByteArray.empty, 0, (⟨0, 1⟩ : TRat), 1, 2, 0⟩ : TContract)])) fun r2 =>  ifB (decide ((r2.1.length : Int) = 1))  (Option.bind (gi r2.1 0) fun v4 =>  ifB (decide (v4 = 2))  (ifB (decide ((r2.2.length : Int) = 1))  (Option.bind (gi r2.2 0) fun v7 =>  some (eqTDiag v7 (⟨13, 1, (⟨#[120]⟩ : ByteArray)⟩ : TDiag)))  (some (false)))  (some (false)))  (some (false))
noncomputable def m_law18_Case_right (a0 : TBallcocklaw18_Case) : Option Bool :=
 ifB (decide ((a0.f0.length : Int) ≤ 10))  (ifB (decide ((a0.f1.length : Int) ≤ 10))  (some (decide ((a0.f2.length : Int) ≤ 10)))  (some (false)))  (some (false))
noncomputable def m_law18_sets_L0 (a0 : List Int) (a1 : List Int) : Int → Option ((Int) ⊕ ((Unit) ⊕ (Bool)))
 | v5 =>
 ifB (decide (v5 < (a0.length : Int)))  (Option.bind (gi a0 v5) fun v7 =>  Option.bind (gi a1 v5) fun v8 =>  ifB (!decide (v7 = v8))  (some (.inr (.inr false)))  (some (.inl (IntKind.wrap .i64 (v5 + 1)))))  (some (.inr (.inl ())))
noncomputable def m_law18_sets (a0 : List Int) (a1 : List Int) : Option Bool :=
 ifB (!decide ((a0.length : Int) = (a1.length : Int)))  (some (false))  (Option.bind (loopO (m_law18_sets_L0 a0 a1) (0)) fun z => (match z with  | .inl _ =>  (some (true))  | .inr r => (some r)))
noncomputable def m_law18_LendOne_L0 (a1 : List TContract) : ((List Int) × Int) → Option (((List Int) × Int) ⊕ (((List Int))))
 | (v15, v17) =>
 ifB (decide (v17 < (a1.length : Int)))  (Option.bind (rq (decide (v15.length + ([0]).length ≤ 1000000))) fun _ =>  some (.inl ((v15 ++ ([0])), IntKind.wrap .i64 (v17 + 1))))  (some (.inr (v15)))
noncomputable def m_law18_LendOne_L2 (r25 : (List Int) × (List TDiag)) (v34 : Int) : (Bool × Int) → Option ((Bool × Int) ⊕ ((Bool)))
 | (v44, v45) =>
 ifB (decide (v45 < (r25.2.length : Int)))  (Option.bind  (ifB v44  (some (true))  (Option.bind (gi r25.2 v45) fun v51 =>  ifB (decide (v51.f1 = v34))  (some ((!decide (v51.f0 = 10))))  (some (false))) : Option (Bool)) fun v48 =>  some (.inl (v48, IntKind.wrap .i64 (v45 + 1))))  (some (.inr (v44)))
noncomputable def m_law18_LendOne_L1 (a1 : List TContract) (r25 : (List Int) × (List TDiag)) : (Int × Int × (List Int)) → Option ((Int × Int × (List Int)) ⊕ ((Int × (List Int)) ⊕ (Bool)))
 | (v33, v34, v35) =>
 ifB (decide (v34 < (a1.length : Int)))  (Option.bind (loopO (m_law18_LendOne_L2 r25 v34) ((false, 0))) fun v46 =>  (Option.bind (gi a1 v34) fun v55 =>  Option.bind  (ifB (!v55.f1)  (some (true))  (some (v46)) : Option (Bool)) fun v56 =>  ifB v56  (some (.inl (v33, IntKind.wrap .i64 (v34 + 1), v35)))  (Option.bind  (ifB (decide (v55.f3 < 0))  (some (true))  (some (decide (4 < v55.f3))) : Option (Bool)) fun v61 =>  ifB v61  (some (.inr (.inr false)))  (Option.bind (rq (decide (0 ≤ v55.f3))) fun _ =>  Option.bind (rq (decide (v55.f3 < 5))) fun _ =>  Option.bind (gi v35 (v55.f3 : Int)) fun v68 =>  Option.bind (rq (decide (v55.f3 < (v35.length : Int)))) fun _ =>  some (.inl (IntKind.wrap .i64 (v33 + 1), IntKind.wrap .i64 (v34 + 1), (v35.set v55.f3.toNat (IntKind.wrap .i64 (v68 + 1)))))))))  (some (.inr (.inl (v33, v35))))
noncomputable def m_law18_LendOne (a0 : Int) (a1 : List TContract) : Option Bool :=
 Option.bind (m_law18_awake) fun r1 =>  Option.bind  (ifB (!r1)  (some (true))  (some (decide (8 < (a1.length : Int)))) : Option (Bool)) fun v2 =>  ifB v2  (Option.bind (m_law18_awake) fun r7 =>  some (r7))  (Option.bind (loopO (m_law18_LendOne_L0 a1) (([], 0))) fun v18 =>  (Option.bind (m_ref15_Own) fun r24 =>  Option.bind (m_lend_Call ([r24]) ([a0]) ([]) v18 a1) fun r25 =>  Option.bind (loopO (m_law18_LendOne_L1 a1 r25) ((0, 0, [0, 0, 0, 0, 0]))) fun z => (match z with  | .inl (v36, v37) =>  (Option.bind (rq (decide (0 ≤ (0 : Int)))) fun _ =>  Option.bind (rq (decide ((0 : Int) < 5))) fun _ =>  Option.bind (gi v37 ((0 : Int) : Int)) fun v74 =>  Option.bind  (ifB (decide (0 < v74))  (ifB (decide (1 < v36))  (some (true))  (Option.bind (rq (decide (0 ≤ (1 : Int)))) fun _ =>  Option.bind (rq (decide ((1 : Int) < 5))) fun _ =>  Option.bind (gi v37 ((1 : Int) : Int)) fun v81 =>  some (decide (1 < v81))))  (Option.bind (rq (decide (0 ≤ (1 : Int)))) fun _ =>  Option.bind (rq (decide ((1 : Int) < 5))) fun _ =>  Option.bind (gi v37 ((1 : Int) : Int)) fun v84 =>  some (decide (1 < v84))) : Option (Bool)) fun v75 =>  ifB v75  (some (false))  (Option.bind (rq (decide (0 ≤ (1 : Int)))) fun _ =>  Option.bind (rq (decide ((1 : Int) < 5))) fun _ =>  Option.bind (gi v37 ((1 : Int) : Int)) fun v89 =>  ifB (decide (0 < v89))  (Option.bind (rq (decide (0 ≤ (2 : Int)))) fun _ =>  Option.bind (rq (decide ((2 : Int) < 5))) fun _ =>  Option.bind (gi v37 ((2 : Int) : Int)) fun v93 =>  ifB (decide (0 < v93))  (some (false))  (Option.bind (rq (decide (0 ≤ (3 : Int)))) fun _ =>  Option.bind (rq (decide ((3 : Int) < 5))) fun _ =>  Option.bind (gi v37 ((3 : Int) : Int)) fun v97 =>  ifB (!(decide (0 < v97)))  (ifB (decide (0 < v97))  (none)  (some (true)))  (some (false))))  (Option.bind (rq (decide (0 ≤ (2 : Int)))) fun _ =>  Option.bind (rq (decide ((2 : Int) < 5))) fun _ =>  Option.bind (gi v37 ((2 : Int) : Int)) fun v102 =>  ifB (decide (0 < v102))  (Option.bind (rq (decide (0 ≤ (3 : Int)))) fun _ =>  Option.bind (rq (decide ((3 : Int) < 5))) fun _ =>  Option.bind (gi v37 ((3 : Int) : Int)) fun v106 =>  ifB (!(decide (0 < v106)))  (ifB (decide (0 < v106))  (none)  (some (true)))  (some (false)))  (Option.bind (rq (decide (0 ≤ (3 : Int)))) fun _ =>  Option.bind (rq (decide ((3 : Int) < 5))) fun _ =>  Option.bind (gi v37 ((3 : Int) : Int)) fun v111 =>  ifB (decide (0 < v111))  (Option.bind (rq (decide (0 ≤ (4 : Int)))) fun _ =>  Option.bind (rq (decide ((4 : Int) < 5))) fun _ =>  Option.bind (gi v37 ((4 : Int) : Int)) fun v115 =>  some ((!(decide (0 < v115)))))  (some (true))))))  | .inr r => (some r))))
noncomputable def m_law18_LendKeeps_L1 (a1 : List Int) (v16 : Int) : (Bool × Int) → Option ((Bool × Int) ⊕ ((Bool)))
 | (v23, v24) =>
 ifB (decide (v24 < (a1.length : Int)))  (Option.bind  (ifB v23  (some (true))  (Option.bind (gi a1 v24) fun v30 =>  some (decide (v30 = v16))) : Option (Bool)) fun v27 =>  some (.inl (v27, IntKind.wrap .i64 (v24 + 1))))  (some (.inr (v23)))
noncomputable def m_law18_LendKeeps_L0 (r11 : (List Int) × (List TDiag)) (a1 : List Int) (a0 : TBallcocklaw18_Case) : Int → Option ((Int) ⊕ ((Unit) ⊕ (Bool)))
 | v16 =>
 ifB (decide (v16 < (r11.1.length : Int)))  (Option.bind (loopO (m_law18_LendKeeps_L1 a1 v16) ((false, 0))) fun v25 =>  (Option.bind  (ifB (!v25)  (Option.bind (gi r11.1 v16) fun v36 =>  Option.bind (gi a0.f1 v16) fun v37 =>  some ((!decide (v36 = v37))))  (some (false)) : Option (Bool)) fun v33 =>  ifB v33  (some (.inr (.inr false)))  (some (.inl (IntKind.wrap .i64 (v16 + 1))))))  (some (.inr (.inl ())))
noncomputable def m_law18_LendKeeps (a0 : TBallcocklaw18_Case) (a1 : List Int) (a2 : List TContract) : Option Bool :=
 Option.bind (m_law18_awake) fun r1 =>  Option.bind  (ifB (!r1)  (some (true))  (Option.bind (m_law18_Case_right a0) fun r5 =>  ifB (!r5)  (some (true))  (ifB (decide (10 < (a1.length : Int)))  (some (true))  (some (decide (10 < (a2.length : Int)))))) : Option (Bool)) fun v2 =>  ifB v2  (Option.bind (m_law18_awake) fun r10 =>  some (r10))  (Option.bind (m_lend_Call a0.f0 a0.f1 a0.f2 a1 a2) fun r11 =>  ifB (!decide ((r11.1.length : Int) = (a0.f1.length : Int)))  (some (false))  (Option.bind (loopO (m_law18_LendKeeps_L0 r11 a1 a0) (0)) fun z => (match z with  | .inl _ =>  (Option.bind (m_lend_Call a0.f0 a0.f1 a0.f2 ([]) a2) fun r41 =>  Option.bind (m_law18_sets r41.1 a0.f1) fun r42 =>  ifB r42  (some (decide ((r41.2.length : Int) = 0)))  (some (false)))  | .inr r => (some r))))
noncomputable def m_law18_LendTo (a0 : Int) (a1 : TContract) : Option Bool :=
 Option.bind (m_law18_awake) fun r1 =>  ifB (!r1)  (some (false))  (Option.bind (m_ref15_Own) fun r3 =>  Option.bind (m_lend_Call ([r3]) ([a0]) ([]) ([0]) ([a1])) fun r4 =>  Option.bind  (ifB (!decide ((r4.1.length : Int) = 1))  (some (true))  (some (decide (0 < (r4.2.length : Int)))) : Option (Bool)) fun v5 =>  ifB v5  (some (decide ((r4.1.length : Int) = 1)))  (ifB (!a1.f1)  (Option.bind (gi r4.1 0) fun v11 =>  some (decide (v11 = a0)))  (Option.bind  (ifB (decide (a1.f3 = 0))  (some (true))  (some (decide (a1.f3 = 1))) : Option (Bool)) fun v12 =>  ifB v12  (Option.bind (gi r4.1 0) fun v17 =>  some (decide (v17 = a1.f6)))  (ifB (decide (a1.f3 = 2))  (Option.bind (gi r4.1 0) fun v19 =>  some (decide (v19 = a1.f7)))  (Option.bind (gi r4.1 0) fun v20 =>  some (decide (v20 = a0)))))))
end Go.E
end
