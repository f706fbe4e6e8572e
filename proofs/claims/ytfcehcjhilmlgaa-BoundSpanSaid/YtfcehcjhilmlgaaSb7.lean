import Derived.Laws.BitsLemmas
import Derived.Test.YtfcehcjhilmlgaaSb6
section
set_option linter.all false
namespace BallQ
def fits (x : Rat) : Prop := x.num.natAbs < 9223372036854775808 ∧ x.den < 9223372036854775808
instance (x : Rat) : Decidable (fits x) := by unfold fits; infer_instance
def out (x : Rat) : Int × Int × Int := if fits x then (x.num, (x.den : Int), 0) else (0, 0, 3)
def put (n d : Nat) (m : Bool) : Int × Int × Int := if n < 9223372036854775808 ∧ d < 9223372036854775808 then ((if m then -(n : Int) else (n : Int)), (d : Int), 0) else (0, 0, 3)
def In64 (a : Int) : Prop := -9223372036854775808 ≤ a ∧ a ≤ 9223372036854775807
def Right (n d : Int) : Prop := 0 < d ∧ n ≠ -9223372036854775808 ∧ Nat.gcd n.natAbs d.natAbs = 1
instance (n d : Int) : Decidable (Right n d) := by unfold Right; infer_instance
def q (n d : Int) : Rat := mkRat n d.toNat
theorem q_right {n d : Int} (h : Right n d) (hn : In64 n) (hd : In64 d) : (q n d).num = n ∧ ((q n d).den : Int) = d ∧ fits (q n d) := by
  obtain ⟨h0, h1, h2⟩ := h
  have hdn : d.toNat ≠ 0 := by omega
  have hc : n.natAbs.Coprime d.toNat := by
    have : d.toNat = d.natAbs := by omega
    rw [this]; exact h2
  have e := Rat.mk_eq_mkRat n d.toNat hdn hc
  unfold q
  rw [← e]
  obtain ⟨n0, n1⟩ := hn
  obtain ⟨d0, d1⟩ := hd
  refine ⟨rfl, by show (d.toNat : Int) = d; omega, ?_⟩
  unfold fits
  show n.natAbs < _ ∧ d.toNat < _
  omega
theorem right_fits {x : Rat} (h : fits x) : Right x.num x.den ∧ In64 x.num ∧ In64 (x.den : Int) := by
  obtain ⟨h0, h1⟩ := h
  have hp := x.den_pos
  refine ⟨⟨by omega, by omega, ?_⟩, ⟨by omega, by omega⟩, ⟨by omega, by omega⟩⟩
  have := x.reduced
  exact this
theorem q_self (x : Rat) : q x.num x.den = x := by
  unfold q
  rw [Int.toNat_natCast, Rat.mkRat_self]
theorem right_inj {a b c d : Int} (h : Right a b) (ha : In64 a) (hb : In64 b) (k : Right c d) (hc : In64 c) (hd : In64 d) (e : q a b = q c d) : a = c ∧ b = d := by
  obtain ⟨h0, h1, _⟩ := q_right h ha hb
  obtain ⟨k0, k1, _⟩ := q_right k hc hd
  rw [e] at h0 h1
  omega
theorem out_cop (N : Int) (D : Nat) (h : D ≠ 0) (c : N.natAbs.gcd D = 1) (m : Bool) (hm : N ≠ 0 → m = decide (N < 0)) : out (mkRat N D) = put N.natAbs D m := by
  rw [← Rat.mk_eq_mkRat N D h c]
  have e : (if m then -(N.natAbs : Int) else (N.natAbs : Int)) = N := by
    by_cases h0 : N = 0
    · subst h0; simp
    · rw [hm h0]
      by_cases hn : N < 0
      · simp only [hn, decide_true, if_true]; omega
      · simp only [hn, decide_false, Bool.false_eq_true, if_false]; omega
  unfold out put fits
  dsimp only
  rw [e]
theorem q_div (n : Int) (d : Nat) : mkRat n d = (n : Rat) / (d : Rat) := Rat.mkRat_eq_div n d
theorem cast_ne {d : Nat} (h : d ≠ 0) : (d : Rat) ≠ 0 := by exact_mod_cast h
theorem cop_of {a b g : Nat} (hg : 0 < g) (e : a.gcd b = g) : (a / g).gcd (b / g) = 1 := by
  subst e; exact Nat.coprime_div_gcd_div_gcd hg
theorem cop_dvd {a b c d : Nat} (h : a.gcd b = 1) (hc : c ∣ a) (hd : d ∣ b) : c.gcd d = 1 := Nat.Coprime.coprime_dvd_left hc (Nat.Coprime.coprime_dvd_right hd h)
theorem mul_cop {a b c d : Nat} (h1 : a.gcd b = 1) (h2 : c.gcd d = 1) (hb : 0 < b) (hd : 0 < d) :
    ((a / a.gcd d) * (c / c.gcd b)).gcd ((b / c.gcd b) * (d / a.gcd d)) = 1 := by
  have g1 : 0 < a.gcd d := Nat.gcd_pos_of_pos_right _ hd
  have g2 : 0 < c.gcd b := Nat.gcd_pos_of_pos_right _ hb
  have k1 := Nat.div_dvd_of_dvd (Nat.gcd_dvd_left a d)
  have k2 := Nat.div_dvd_of_dvd (Nat.gcd_dvd_right a d)
  have k3 := Nat.div_dvd_of_dvd (Nat.gcd_dvd_left c b)
  have k4 := Nat.div_dvd_of_dvd (Nat.gcd_dvd_right c b)
  apply Nat.Coprime.mul_left
  · apply Nat.Coprime.mul_right
    · exact cop_dvd h1 k1 k4
    · exact cop_of g1 rfl
  · apply Nat.Coprime.mul_right
    · exact cop_of g2 rfl
    · exact cop_dvd h2 k3 k2
theorem dvd_natAbs' {p : Nat} {x : Int} (h : (p : Int) ∣ x) : p ∣ x.natAbs := by
  have := Int.natAbs_dvd_natAbs.2 h
  simpa using this
theorem cop_lin {a b x : Int} {A B : Nat} (ha : a.natAbs.gcd A = 1) (hB : B.gcd A = 1) (hx : x = a * B + b * A) : x.natAbs.gcd A = 1 := by
  have hp : x.natAbs.gcd A ∣ A := Nat.gcd_dvd_right _ _
  have hq : x.natAbs.gcd A ∣ x.natAbs := Nat.gcd_dvd_left _ _
  have h1 : ((x.natAbs.gcd A : Nat) : Int) ∣ x := Int.dvd_natAbs.1 (Int.natCast_dvd_natCast.2 hq)
  have h2 : ((x.natAbs.gcd A : Nat) : Int) ∣ (A : Int) := Int.natCast_dvd_natCast.2 hp
  have h3 : ((x.natAbs.gcd A : Nat) : Int) ∣ a * B := by
    have e : a * B = x - b * A := by rw [hx]; omega
    rw [e]
    exact Int.dvd_sub h1 (Int.dvd_mul_of_dvd_right h2)
  have h4 : x.natAbs.gcd A ∣ a.natAbs * B := by
    have := dvd_natAbs' h3
    rwa [Int.natAbs_mul, Int.natAbs_natCast] at this
  have h5 : (a.natAbs * B).gcd A = 1 := Nat.Coprime.mul_left ha hB
  have := Nat.dvd_gcd h4 hp
  rw [h5] at this
  exact Nat.dvd_one.1 this
theorem fsum {a b A B G p t : Rat} (hA : A ≠ 0) (hB : B ≠ 0) (hG : G ≠ 0) (hp : p ≠ 0) (e : a * B + b * A = p * t) : a / (p * G * A) + b / (p * G * B) = t / (A * (G * B)) := by
  have h1 : p * G * A ≠ 0 := by simp [Rat.mul_eq_zero, *]
  have h2 : p * G * B ≠ 0 := by simp [Rat.mul_eq_zero, *]
  have h3 : A * (G * B) ≠ 0 := by simp [Rat.mul_eq_zero, *]
  have k : (a / (p * G * A) + b / (p * G * B)) * (p * (A * (G * B))) = a * B + b * A := by
    have e1 : a / (p * G * A) * (p * (A * (G * B))) = a * B := by
      have : p * (A * (G * B)) = p * G * A * B := by grind
      rw [this, ← Rat.mul_assoc, Rat.div_mul_cancel h1]
    have e2 : b / (p * G * B) * (p * (A * (G * B))) = b * A := by
      have : p * (A * (G * B)) = p * G * B * A := by grind
      rw [this, ← Rat.mul_assoc, Rat.div_mul_cancel h2]
    rw [Rat.add_mul, e1, e2]
  have k2 : t / (A * (G * B)) * (p * (A * (G * B))) = p * t := by
    have : p * (A * (G * B)) = (A * (G * B)) * p := by grind
    rw [this, ← Rat.mul_assoc, Rat.div_mul_cancel h3, Rat.mul_comm]
  have k3 : p * (A * (G * B)) ≠ 0 := by simp only [ne_eq, Rat.mul_eq_zero, not_or]; exact ⟨hp, hA, hG, hB⟩
  have k4 : (a / (p * G * A) + b / (p * G * B)) * (p * (A * (G * B))) = t / (A * (G * B)) * (p * (A * (G * B))) := by rw [k, k2, e]
  generalize a / (p * G * A) + b / (p * G * B) = u at *
  generalize t / (A * (G * B)) = v at *
  generalize p * (A * (G * B)) = w at *
  grind
theorem add_parts {aN bN : Int} {aD bD : Nat} (ha : aN.natAbs.gcd aD = 1) (hb : bN.natAbs.gcd bD = 1) (h0 : 0 < aD) (h1 : 0 < bD) (n : Int)
    (hn : n = aN * ((bD / aD.gcd bD : Nat) : Int) + bN * ((aD / aD.gcd bD : Nat) : Int)) :
    ∃ t : Int, n = ((aD.gcd bD).gcd n.natAbs : Nat) * t ∧ mkRat aN aD + mkRat bN bD = mkRat t (aD / aD.gcd bD * (bD / (aD.gcd bD).gcd n.natAbs)) ∧ t.natAbs.gcd (aD / aD.gcd bD * (bD / (aD.gcd bD).gcd n.natAbs)) = 1 ∧ aD / aD.gcd bD * (bD / (aD.gcd bD).gcd n.natAbs) ≠ 0 := by
  have hg : 0 < aD.gcd bD := Nat.gcd_pos_of_pos_left _ h0
  obtain ⟨A, hA⟩ := Nat.gcd_dvd_left aD bD
  obtain ⟨B, hB⟩ := Nat.gcd_dvd_right aD bD
  have eA : aD / aD.gcd bD = A := by
    conv => lhs; lhs; rw [hA]
    exact Nat.mul_div_cancel_left _ hg
  have eB : bD / aD.gcd bD = B := by
    conv => lhs; lhs; rw [hB]
    exact Nat.mul_div_cancel_left _ hg
  have hAB : A.gcd B = 1 := by
    have := Nat.coprime_div_gcd_div_gcd hg
    rw [eA, eB] at this; exact this
  rw [eA, eB] at hn
  rw [eA]
  generalize aD.gcd bD = g at *
  have hp : 0 < g.gcd n.natAbs := Nat.gcd_pos_of_pos_left _ hg
  obtain ⟨G, hG⟩ := Nat.gcd_dvd_left g n.natAbs
  have hpn : ((g.gcd n.natAbs : Nat) : Int) ∣ n := Int.dvd_natAbs.1 (Int.natCast_dvd_natCast.2 (Nat.gcd_dvd_right g n.natAbs))
  obtain ⟨t, ht⟩ := hpn
  have hA0 : 0 < A := by rcases Nat.eq_zero_or_pos A with h | h; · subst h; simp at hA; omega
                         · exact h
  have hB0 : 0 < B := by rcases Nat.eq_zero_or_pos B with h | h; · subst h; simp at hB; omega
                         · exact h
  have hG0 : 0 < G := by rcases Nat.eq_zero_or_pos G with h | h; · subst h; simp at hG; omega
                         · exact h
  have c1 : n.natAbs.gcd A = 1 := cop_lin (a := aN) (b := bN) (B := B) (Nat.Coprime.coprime_dvd_right ⟨g, by rw [hA, Nat.mul_comm]⟩ ha) (by rw [Nat.gcd_comm]; exact hAB) hn
  have c2 : n.natAbs.gcd B = 1 := cop_lin (a := bN) (b := aN) (B := A) (Nat.Coprime.coprime_dvd_right ⟨g, by rw [hB, Nat.mul_comm]⟩ hb) hAB (by rw [hn]; omega)
  have c3 : G.gcd t.natAbs = 1 := by
    have := Nat.coprime_div_gcd_div_gcd hp
    have e1 : g / g.gcd n.natAbs = G := by
      conv => lhs; lhs; rw [hG]
      exact Nat.mul_div_cancel_left _ hp
    have e2 : n.natAbs / g.gcd n.natAbs = t.natAbs := by
      have : n.natAbs = g.gcd n.natAbs * t.natAbs := by
        conv => lhs; rw [ht]
        rw [Int.natAbs_mul, Int.natAbs_natCast]
      conv => lhs; lhs; rw [this]
      exact Nat.mul_div_cancel_left _ hp
    rw [e1, e2] at this; exact this
  have ht2 : t.natAbs ∣ n.natAbs := by
    refine ⟨g.gcd n.natAbs, ?_⟩
    conv => lhs; rw [ht]
    rw [Int.natAbs_mul, Int.natAbs_natCast, Nat.mul_comm]
  have eD : bD / g.gcd n.natAbs = G * B := by
    have : bD = g.gcd n.natAbs * (G * B) := by rw [← Nat.mul_assoc, ← hG]; exact hB
    conv => lhs; lhs; rw [this]
    exact Nat.mul_div_cancel_left _ hp
  refine ⟨t, ht, ?_, ?_, ?_⟩
  · rw [eD, q_div, q_div, q_div, hA, hB]
    generalize g.gcd n.natAbs = p at *
    have nA := cast_ne (d := A) (by omega)
    have nB := cast_ne (d := B) (by omega)
    have nG := cast_ne (d := G) (by omega)
    have np := cast_ne (d := p) (by omega)
    have e : (aN : Rat) * (B : Rat) + (bN : Rat) * (A : Rat) = (p : Rat) * (t : Rat) := by
      have : ((aN * (B : Int) + bN * (A : Int) : Int) : Rat) = (((p : Int) * t : Int) : Rat) := by rw [← hn, ← ht]
      simp only [Rat.intCast_add, Rat.intCast_mul, Rat.intCast_natCast] at this
      exact this
    subst hG
    simp only [Rat.natCast_mul]
    exact fsum nA nB nG np e
  · rw [eD]
    apply Nat.Coprime.mul_right
    · exact cop_dvd c1 ht2 (Nat.dvd_refl _)
    · apply Nat.Coprime.mul_right
      · rw [Nat.gcd_comm] at c3; exact c3
      · exact cop_dvd c2 ht2 (Nat.dvd_refl _)
  · rw [eD]
    exact Nat.ne_of_gt (Nat.mul_pos hA0 (Nat.mul_pos hG0 hB0))
end BallQ
namespace BallQ
structure Digit (u c y y1 y0 B qh rh : Nat) : Prop where
  up : qh * y1 + rh = u
  ge : (u * B + c) / y ≤ qh
theorem digit_start {u c y y1 y0 B : Nat} (hy : y = y1 * B + y0) (_h1 : 0 < y1) (hc : c < B) : Digit u c y y1 y0 B (u / y1) (u % y1) := by
  refine ⟨by rw [Nat.mul_comm]; exact Nat.div_add_mod u y1, ?_⟩
  rw [Nat.le_div_iff_mul_le _h1]
  generalize hQ : (u * B + c) / y = Q
  have h := Nat.div_mul_le_self (u * B + c) y
  rw [hQ, hy, Nat.mul_add] at h
  have h2 : (Q * y1) * B ≤ u * B + c := by rw [← Nat.mul_assoc] at h; omega
  have hB : 0 < B := by omega
  rcases Nat.lt_or_ge u (Q * y1) with h3 | h3
  · have : (u + 1) * B ≤ (Q * y1) * B := Nat.mul_le_mul_right _ h3
    rw [Nat.add_mul] at this
    omega
  · exact h3
theorem digit_more {u c y y1 y0 B qh rh : Nat} (d : Digit u c y y1 y0 B qh rh) (hy : y = y1 * B + y0) (hyp : 0 < y) (hu : u < y) (hc : c < B) (h : B ≤ qh ∨ B * rh + c < qh * y0) : (u * B + c) / y < qh := by
  rcases h with h | h
  · have : (u * B + c) / y < B := by
      rw [Nat.div_lt_iff_lt_mul hyp]
      have : (u + 1) * B ≤ y * B := Nat.mul_le_mul_right _ hu
      rw [Nat.add_mul] at this
      have e : B * y = y * B := Nat.mul_comm _ _
      omega
    omega
  · rw [Nat.div_lt_iff_lt_mul hyp]
    have e1 : qh * y = (qh * y1) * B + qh * y0 := by rw [hy, Nat.mul_add, Nat.mul_assoc]
    have e2 : u * B = (qh * y1) * B + rh * B := by rw [← d.up, Nat.add_mul]
    have e3 : B * rh = rh * B := Nat.mul_comm _ _
    omega
theorem digit_step {u c y y1 y0 B qh rh : Nat} (d : Digit u c y y1 y0 B qh rh) (h : (u * B + c) / y < qh) : Digit u c y y1 y0 B (qh - 1) (rh + y1) := by
  refine ⟨?_, Nat.le_sub_one_of_lt h⟩
  have := d.up
  have hq : 0 < qh := Nat.lt_of_le_of_lt (Nat.zero_le _) h
  clear h d
  obtain ⟨k, rfl⟩ : ∃ k, qh = k + 1 := ⟨qh - 1, by omega⟩
  rw [Nat.add_mul] at this
  simp; omega
theorem digit_end {u c y y1 y0 B qh rh : Nat} (d : Digit u c y y1 y0 B qh rh) (hy : y = y1 * B + y0) (hyp : 0 < y) (h : qh * y0 ≤ B * rh + c) : qh = (u * B + c) / y := by
  apply Nat.le_antisymm _ d.ge
  rw [Nat.le_div_iff_mul_le hyp]
  have e1 : qh * y = (qh * y1) * B + qh * y0 := by rw [hy, Nat.mul_add, Nat.mul_assoc]
  have e2 : u * B = (qh * y1) * B + rh * B := by rw [← d.up, Nat.add_mul]
  have e3 : B * rh = rh * B := Nat.mul_comm _ _
  omega
theorem digit_far {u c y y1 y0 B qh rh : Nat} (d : Digit u c y y1 y0 B qh rh) (hy : y = y1 * B + y0) (hyp : 0 < y) (h0 : y0 < B) (hq : qh ≤ B) (hr : B ≤ rh) : qh = (u * B + c) / y := by
  apply digit_end d hy hyp
  have h1 : qh * y0 ≤ B * B := Nat.mul_le_mul hq (by omega)
  have h2 : B * B ≤ B * rh := Nat.mul_le_mul_left _ hr
  omega
theorem digit_bound {u y y1 y0 B : Nat} (hy : y = y1 * B + y0) (hu : u < y) (h0 : y0 < B) (h1 : B ≤ 2 * y1) (hp : 0 < y1) : u / y1 ≤ B + 1 := by
  have : u < (B + 2) * y1 := by
    have e : (B + 2) * y1 = y1 * B + 2 * y1 := by rw [Nat.add_mul, Nat.mul_comm]
    omega
  have := (Nat.div_lt_iff_lt_mul hp).2 this
  omega
theorem two_digits {U y B u c1 c0 : Nat} (hyp : 0 < y) (hU : U = u * (B * B) + (c1 * B + c0)) :
    U / y = (u * B + c1) / y * B + (((u * B + c1) % y) * B + c0) / y ∧ U % y = (((u * B + c1) % y) * B + c0) % y := by
  have h1 := Nat.div_add_mod (u * B + c1) y
  generalize (u * B + c1) / y = q1 at *
  generalize (u * B + c1) % y = r1 at *
  have e : U = y * (q1 * B) + (r1 * B + c0) := by
    have : U = (u * B + c1) * B + c0 := by rw [hU]; grind
    rw [this, ← h1]; grind
  rw [e]
  constructor
  · rw [Nat.mul_add_div hyp]
  · rw [Nat.mul_add_mod]
end BallQ
namespace Go.E
open Go Go.Eng
open BallQ (In64 Right q out fits put)
instance in64Dec (a : Int) : Decidable (BallQ.In64 a) := inferInstanceAs (Decidable (_ ∧ _))
theorem wu64 (n : Int) : IntKind.u64.wrap n = n % 18446744073709551616 := by
  simp [IntKind.wrap, IntKind.signed, IntKind.bits]
theorem wi64 (n : Int) : IntKind.i64.wrap n = (n + 9223372036854775808) % 18446744073709551616 - 9223372036854775808 := by
  simp [IntKind.wrap, IntKind.signed, IntKind.bits]
  omega
theorem andI_eq (k : IntKind) (a b : Int) : andI k a b = bits .and k a b := rfl
theorem orI_eq (k : IntKind) (a b : Int) : orI k a b = bits .or k a b := rfl
theorem wraps_u64 (n : Int) (h₀ : 0 ≤ n) (h₁ : n < 2 ^ 64) : IntKind.u64.wrap n = n := by rw [wu64]; omega
theorem and32 (x : Nat) (h : x < 18446744073709551616) : andI .u64 (x : Int) 4294967295 = ((x % 4294967296 : Nat) : Int) := by
  rw [andI_eq]
  have := bits_mask .u64 64 (by decide) wraps_u64 32 (by decide) (x : Int) (by omega) (by omega)
  have e : ((2 : Int) ^ 32 - 1) = 4294967295 := by decide
  rw [e] at this
  rw [this]; omega
theorem mul_split (x1 x0 y1 y0 B : Nat) (hB : 0 < B) : (x1 * B + x0) * (y1 * B + y0) / (B * B) = x1 * y1 + (x1 * y0 + x0 * y0 / B) / B + ((x1 * y0 + x0 * y0 / B) % B + x0 * y1) / B := by
  have h1 := Nat.div_add_mod (x0 * y0) B
  have h2 := Nat.div_add_mod (x1 * y0 + x0 * y0 / B) B
  generalize hw : x0 * y0 / B = w at *
  generalize hr : x0 * y0 % B = r at *
  generalize hu : (x1 * y0 + w) / B = u at *
  generalize hv : (x1 * y0 + w) % B = v at *
  have hrB : r < B := by rw [← hr]; exact Nat.mod_lt _ hB
  have h3 := Nat.div_add_mod (v + x0 * y1) B
  generalize hs : (v + x0 * y1) / B = s at *
  have htB : (v + x0 * y1) % B < B := Nat.mod_lt _ hB
  generalize (v + x0 * y1) % B = t at *
  have e : (x1 * B + x0) * (y1 * B + y0) = (x1 * y1 + u + s) * (B * B) + (t * B + r) := by
    have a1 : (x1 * B + x0) * (y1 * B + y0) = x1 * y1 * (B * B) + (x1 * y0) * B + (x0 * y1) * B + x0 * y0 := by grind
    have a2 : (x1 * y0 + w) * B = (B * u + v) * B := by rw [h2]
    have a3 : (v + x0 * y1) * B = (B * s + t) * B := by rw [h3]
    rw [a1, ← h1]
    have b1 : (x1 * y0) * B + w * B = B * u * B + v * B := by rw [← Nat.add_mul, ← Nat.add_mul]; exact a2
    have b2 : v * B + x0 * y1 * B = B * s * B + t * B := by rw [← Nat.add_mul, ← Nat.add_mul]; exact a3
    have c1 : (x1 * y1 + u + s) * (B * B) = x1 * y1 * (B * B) + B * u * B + B * s * B := by grind
    have c2 : B * w = w * B := Nat.mul_comm _ _
    rw [c1, c2]
    omega
  rw [e]
  have hlt : t * B + r < B * B := by
    have : (t + 1) * B ≤ B * B := Nat.mul_le_mul_right _ htB
    rw [Nat.add_mul] at this; omega
  rw [Nat.mul_comm, Nat.mul_add_div (Nat.mul_pos hB hB), Nat.div_eq_of_lt hlt, Nat.add_zero]
theorem mul_lt {a b A B : Nat} (ha : a < A) (hb : b < B) : a * b ≤ (A - 1) * (B - 1) := Nat.mul_le_mul (by omega) (by omega)
theorem signed_mul (a b : Int) : a * b = if (decide (a < 0) != decide (b < 0)) = true then -((a.natAbs * b.natAbs : Nat) : Int) else ((a.natAbs * b.natAbs : Nat) : Int) := by
  rcases Int.natAbs_eq a with ea | ea <;> rcases Int.natAbs_eq b with eb | eb
  all_goals
    generalize a.natAbs = m at *
    generalize b.natAbs = n at *
    subst ea eb
    simp only [Int.natCast_mul]
  · have h1 : ¬ ((m : Int) < 0) := by omega
    have h2 : ¬ ((n : Int) < 0) := by omega
    simp [h1, h2]
  · have h1 : ¬ ((m : Int) < 0) := by omega
    by_cases h2 : -(n : Int) < 0
    · simp [h1]; rw [if_pos (by omega), Int.mul_neg]
    · have : n = 0 := by omega
      subst this; simp
  · have h1 : ¬ ((n : Int) < 0) := by omega
    by_cases h2 : -(m : Int) < 0
    · simp [h1]; rw [if_pos (by omega), Int.neg_mul]
    · have : m = 0 := by omega
      subst this; simp
  · by_cases h1 : -(m : Int) < 0 <;> by_cases h2 : -(n : Int) < 0
    · simp; rw [if_pos (by constructor <;> intro <;> omega), Int.neg_mul_neg]
    · have : n = 0 := by omega
      subst this; simp
    · have : m = 0 := by omega
      subst this; simp
    · have : m = 0 := by omega
      subst this; simp
theorem natAbs_le {a : Int} (h : In64 a) : a.natAbs ≤ 9223372036854775808 := by have := h.1; have := h.2; omega
structure Norm (y y1 y0 : Nat) : Prop where
  e : y = y1 * 4294967296 + y0
  lo : 9223372036854775808 ≤ y
  hi : y < 18446744073709551616
  d0 : y0 < 4294967296
theorem Norm.half {y y1 y0 : Nat} (n : Norm y y1 y0) : 2147483648 ≤ y1 ∧ y1 < 4294967296 := by
  have := n.e; have := n.lo; have := n.hi; have := n.d0; omega
theorem test_eq {q y0 rh c : Nat} (hq : q < 4294967296) (hy0 : y0 < 4294967296) (hr : rh < 4294967296) (hc : c < 4294967296) :
    decide ((IntKind.u64.wrap ((q : Int) * (y0 : Int))) > (IntKind.u64.wrap ((IntKind.u64.wrap (4294967296 * (rh : Int))) + (c : Int)))) = decide (4294967296 * rh + c < q * y0) := by
  have m := mul_lt hq hy0
  have e1 : IntKind.u64.wrap ((q : Int) * (y0 : Int)) = ((q * y0 : Nat) : Int) := by rw [wu64, ← Int.natCast_mul]; omega
  have e2 : IntKind.u64.wrap (4294967296 * (rh : Int)) = ((4294967296 * rh : Nat) : Int) := by rw [wu64]; omega
  have e3 : IntKind.u64.wrap (((4294967296 * rh : Nat) : Int) + (c : Int)) = ((4294967296 * rh + c : Nat) : Int) := by rw [wu64]; omega
  rw [e1, e2, e3, decide_eq_decide]
  omega
theorem rest_eq {u c y Q : Nat} (hQ : Q = (u * 4294967296 + c) / y) (hy : 0 < y) (hy1 : y < 18446744073709551616) :
    IntKind.u64.wrap ((IntKind.u64.wrap ((IntKind.u64.wrap ((u : Int) * 4294967296)) + (c : Int))) - (IntKind.u64.wrap ((Q : Int) * (y : Int)))) = (((u * 4294967296 + c) % y : Nat) : Int) := by
  have h := Nat.div_add_mod (u * 4294967296 + c) y
  have hlt := Nat.mod_lt (u * 4294967296 + c) hy
  rw [← hQ, Nat.mul_comm] at h
  rw [wu64, wu64, wu64, wu64, ← Int.natCast_mul Q y]
  generalize Q * y = p at *
  generalize (u * 4294967296 + c) % y = R at *
  clear hQ
  omega
theorem sub_mul_eq {R y1 : Nat} (hR : R < 18446744073709551616) :
    IntKind.u64.wrap (Int.tdiv (R : Int) (y1 : Int)) = ((R / y1 : Nat) : Int) ∧ IntKind.u64.wrap ((R : Int) - (IntKind.u64.wrap (((R / y1 : Nat) : Int) * (y1 : Int)))) = ((R % y1 : Nat) : Int) := by
  have h := Nat.div_add_mod R y1
  have hd : R / y1 ≤ R := Nat.div_le_self R y1
  constructor
  · rw [Int.tdiv_eq_ediv_of_nonneg (by omega), ← Int.natCast_ediv, wu64]
    generalize R / y1 = v at *
    omega
  · rw [wu64, wu64, ← Int.natCast_mul, Nat.mul_comm (R / y1) y1]
    generalize y1 * (R / y1) = p at *
    generalize R % y1 = m at *
    omega
theorem shr_eq (x s : Nat) (hs : s ≤ 64) : shrI .u64 (x : Int) (s : Int) = ((x / 2 ^ s : Nat) : Int) := by
  unfold shrI
  have : min (s : Int).toNat (IntKind.u64.bits) = s := by simp [IntKind.bits]; omega
  rw [this, Int.fdiv_eq_ediv_of_nonneg _ (by exact_mod_cast Nat.zero_le _)]; simp
theorem shl_eq (x s : Nat) (hs : s ≤ 64) : shlI .u64 (x : Int) (s : Int) = ((x * 2 ^ s % 18446744073709551616 : Nat) : Int) := by
  unfold shlI
  have : min (s : Int).toNat (IntKind.u64.bits) = s := by simp [IntKind.bits]; omega
  rw [this, wu64]; simp
theorem or_eq {x y s : Nat} (hx : x * 2 ^ s < 18446744073709551616) (hy : y < 2 ^ s) (hs : s ≤ 64) : orI .u64 ((x * 2 ^ s : Nat) : Int) (y : Int) = ((x * 2 ^ s + y : Nat) : Int) := by
  have hp : 2 ^ s ≤ 18446744073709551616 := Nat.pow_le_pow_right (n := 2) (by decide) hs
  have e : ((2 : Int) ^ s) = ((2 ^ s : Nat) : Int) := by simp
  have h1 : ((x * 2 ^ s : Nat) : Int) % 2 ^ s = 0 := by rw [e, ← Int.natCast_emod, Nat.mul_mod_left]; rfl
  have h2 : (y : Int) < 2 ^ s := by rw [e]; exact Int.ofNat_lt.2 hy
  have h3 : ((x * 2 ^ s : Nat) : Int) < 2 ^ 64 := Int.ofNat_lt.2 hx
  have h4 : (y : Int) < 2 ^ 64 := Int.ofNat_lt.2 (Nat.lt_of_lt_of_le hy hp)
  rw [orI_eq]
  have := bits_join .u64 64 (by decide) wraps_u64 s ((x * 2 ^ s : Nat) : Int) (y : Int) (Int.natCast_nonneg _) h1 h3 (Int.natCast_nonneg _) h2 h4
  rw [this]; simp
theorem shift_parts {hi lo y p r : Nat} (hpp : r * p = 18446744073709551616) (h : hi < y) (hl : lo < 18446744073709551616) (sN : y * p < 18446744073709551616) :
    hi * p < 18446744073709551616 ∧ lo / r < p ∧ hi * p + lo / r < y * p ∧ (hi * 18446744073709551616 + lo) * p = (hi * p + lo / r) * 18446744073709551616 + lo * p % 18446744073709551616 := by
  have p0 : 0 < p := by rcases Nat.eq_zero_or_pos p with e | e; · subst e; simp at hpp
                        · exact e
  have r0 : 0 < r := by rcases Nat.eq_zero_or_pos r with e | e; · subst e; simp at hpp
                        · exact e
  have h1 : (hi + 1) * p ≤ y * p := Nat.mul_le_mul_right _ h
  rw [Nat.add_mul, Nat.one_mul] at h1
  have h2 : lo / r < p := by rw [Nat.div_lt_iff_lt_mul r0, Nat.mul_comm, hpp]; exact hl
  have a1 := Nat.div_add_mod (lo * p) 18446744073709551616
  have a2 : lo * p / 18446744073709551616 = lo / r := by rw [← hpp, Nat.mul_div_mul_right _ _ p0]
  rw [a2] at a1
  have a3 : (hi * 18446744073709551616 + lo) * p = hi * p * 18446744073709551616 + lo * p := by grind
  rw [a3]
  generalize hi * p = A at *
  generalize y * p = Y at *
  generalize lo * p = L at *
  generalize lo / r = D at *
  clear hpp a2 a3
  omega
theorem right_nat {n d : Int} (h : Right n d) (hd : In64 d) : ∃ D : Nat, d = (D : Int) ∧ 0 < D ∧ D < 9223372036854775808 ∧ n.natAbs.gcd D = 1 := by
  obtain ⟨h0, _, h2⟩ := h
  have := hd.2
  refine ⟨d.natAbs, by omega, by omega, by omega, h2⟩
theorem out_zero : out 0 = (0, 1, 0) := by decide +kernel
theorem or_zero {a b : Nat} (ha : a < 18446744073709551616) (hb : b < 18446744073709551616) : orI .u64 (a : Int) (b : Int) = 0 ↔ a = 0 ∧ b = 0 := by
  rw [orI_eq]
  have := (bits_nat .u64 64 (by decide) wraps_u64 a b (by omega) (by omega)).2
  rw [this]
  have e : ((a ||| b : Nat) : Int) = 0 ↔ (a ||| b) = 0 := by omega
  rw [e, Nat.or_eq_zero_iff]
theorem gcd_le_right {a b : Nat} (hb : 0 < b) : a.gcd b ≤ b := Nat.gcd_le_right a hb
def addS (aN aD bN bD : Int) : Int × Int × Int := if Right aN aD ∧ Right bN bD then out (q aN aD + q bN bD) else (0, 0, 2)
theorem add_fin {v t : Int} {p D : Nat} (hp0 : 0 < p) (ht : v = (p : Int) * t) (m : Bool) :
    (¬ v.natAbs / 18446744073709551616 < p → put t.natAbs D m = (0, 0, 3)) ∧ (v.natAbs / 18446744073709551616 < p → t.natAbs < 18446744073709551616) ∧ v.natAbs / p = t.natAbs := by
  have e : v.natAbs = p * t.natAbs := by rw [ht, Int.natAbs_mul, Int.natAbs_natCast]
  have e2 : v.natAbs / p = t.natAbs := by rw [e]; exact Nat.mul_div_cancel_left _ hp0
  refine ⟨?_, ?_, e2⟩
  · intro h
    have h1 : p * 18446744073709551616 ≤ v.natAbs := by
      have := Nat.div_mul_le_self v.natAbs 18446744073709551616
      have h3 := Nat.mul_le_mul_right 18446744073709551616 (Nat.not_lt.1 h)
      exact Nat.le_trans h3 this
    have h2 : 18446744073709551616 ≤ t.natAbs := by
      rw [← e2, Nat.le_div_iff_mul_le hp0, Nat.mul_comm]; exact h1
    unfold BallQ.put
    rw [if_neg]
    intro h3
    have := h3.1
    clear h3 h1 e e2 ht h
    omega
  · intro h
    rw [← e2, Nat.div_lt_iff_lt_mul hp0]
    have h1 := (Nat.div_lt_iff_lt_mul (show 0 < 18446744073709551616 by decide)).1 h
    rw [Nat.mul_comm]; exact h1
theorem in64_nat {n : Nat} (h : n < 9223372036854775808) : In64 (n : Int) := ⟨by omega, by omega⟩
theorem lt64 {n : Nat} (h : n < 9223372036854775808) : n < 18446744073709551616 := by omega
theorem pos_ne {n : Nat} (h : 0 < n) : ¬ ((n : Nat) : Int) = 0 := by omega
theorem sign_of {v t : Int} {p : Nat} (hp0 : 0 < p) (ht : v = (p : Int) * t) : decide (v < 0) = decide (t < 0) := by
  rw [decide_eq_decide, ht]
  have hp : (0 : Int) < (p : Int) := by omega
  constructor
  · intro h
    by_cases h' : t < 0
    · exact h'
    · have := Int.mul_nonneg (Int.le_of_lt hp) (Int.not_lt.1 h')
      exact absurd h (Int.not_lt.2 this)
  · intro h; exact Int.mul_neg_of_pos_of_neg hp h
theorem nat_split (n : Nat) (h : n < 340282366920938463463374607431768211456) : n / 18446744073709551616 * 18446744073709551616 + n % 18446744073709551616 = n ∧ n / 18446744073709551616 < 18446744073709551616 ∧ n % 18446744073709551616 < 18446744073709551616 := by omega
theorem sum_bound {x y : Int} (hx : x.natAbs ≤ 9223372036854775808 * 9223372036854775808) (hy : y.natAbs ≤ 9223372036854775808 * 9223372036854775808) : (x + y).natAbs < 340282366920938463463374607431768211456 := by omega
theorem prod_bound {x : Int} {n : Nat} (hx : In64 x) (hn : n < 9223372036854775808) : (x * (n : Int)).natAbs ≤ 9223372036854775808 * 9223372036854775808 := by
  rw [Int.natAbs_mul]; exact Nat.mul_le_mul (natAbs_le hx) (by rw [Int.natAbs_natCast]; omega)
theorem div_exact {a : Int} {x : Nat} (h : x ∣ a.natAbs) (hx : 0 < x) : ∃ t : Int, a = (x : Int) * t ∧ a.natAbs / x = t.natAbs := by
  have hd : (x : Int) ∣ a := Int.dvd_natAbs.1 (Int.natCast_dvd_natCast.2 h)
  obtain ⟨t, ht⟩ := hd
  refine ⟨t, ht, ?_⟩
  have e : a.natAbs = x * t.natAbs := by rw [ht, Int.natAbs_mul, Int.natAbs_natCast]
  rw [e]; exact Nat.mul_div_cancel_left _ hx
theorem mul_parts {aN bN : Int} {A B : Nat} (ha : aN.natAbs.gcd A = 1) (hb : bN.natAbs.gcd B = 1) (hA : 0 < A) (hB : 0 < B) (m : Bool) (hm : aN ≠ 0 → bN ≠ 0 → m = (decide (aN < 0) != decide (bN < 0))) :
    out (mkRat aN A * mkRat bN B) = put (aN.natAbs / aN.natAbs.gcd B * (bN.natAbs / bN.natAbs.gcd A)) (A / bN.natAbs.gcd A * (B / aN.natAbs.gcd B)) m := by
  have g1 : 0 < aN.natAbs.gcd B := Nat.gcd_pos_of_pos_right _ hB
  have g2 : 0 < bN.natAbs.gcd A := Nat.gcd_pos_of_pos_right _ hA
  have hc := BallQ.mul_cop ha hb hA hB
  obtain ⟨a', ha', ea⟩ := div_exact (Nat.gcd_dvd_left aN.natAbs B) g1
  obtain ⟨b', hb', eb⟩ := div_exact (Nat.gcd_dvd_left bN.natAbs A) g2
  obtain ⟨A', hA'⟩ := Nat.gcd_dvd_right bN.natAbs A
  obtain ⟨B', hB'⟩ := Nat.gcd_dvd_right aN.natAbs B
  have eA : A / bN.natAbs.gcd A = A' := by
    conv => lhs; lhs; rw [hA']
    exact Nat.mul_div_cancel_left _ g2
  have eB : B / aN.natAbs.gcd B = B' := by
    conv => lhs; lhs; rw [hB']
    exact Nat.mul_div_cancel_left _ g1
  rw [ea, eb, eA, eB] at hc
  rw [ea, eb, eA, eB]
  have hv : mkRat aN A * mkRat bN B = mkRat (a' * b') (A' * B') := by
    rw [Rat.mkRat_mul_mkRat]
    have e1 : aN * bN = ((aN.natAbs.gcd B * bN.natAbs.gcd A : Nat) : Int) * (a' * b') := by
      conv => lhs; rw [ha', hb']
      rw [Int.natCast_mul]; grind
    have e2 : A * B = aN.natAbs.gcd B * bN.natAbs.gcd A * (A' * B') := by
      conv => lhs; rw [hA', hB']
      grind
    rw [e1, e2]
    exact Rat.mkRat_mul_left (Nat.ne_of_gt (Nat.mul_pos g1 g2))
  rw [hv]
  have hA0 : A' ≠ 0 := by intro h; rw [h] at hA'; simp at hA'; omega
  have hB0 : B' ≠ 0 := by intro h; rw [h] at hB'; simp at hB'; omega
  have hn : (a' * b').natAbs = a'.natAbs * b'.natAbs := Int.natAbs_mul _ _
  rw [← hn] at hc ⊢
  refine BallQ.out_cop _ _ (Nat.mul_ne_zero hA0 hB0) hc m (fun h => ?_)
  have ha0 : a' ≠ 0 := by intro e; apply h; rw [e]; simp
  have hb0 : b' ≠ 0 := by intro e; apply h; rw [e]; simp
  have hma : decide (aN < 0) = decide (a' < 0) := sign_of g1 ha'
  have hmb : decide (bN < 0) = decide (b' < 0) := sign_of g2 hb'
  have na : aN ≠ 0 := by rw [ha']; intro e; rcases Int.mul_eq_zero.1 e with e | e; · omega
                         · exact ha0 e
  have nb : bN ≠ 0 := by rw [hb']; intro e; rcases Int.mul_eq_zero.1 e with e | e; · omega
                         · exact hb0 e
  rw [hm na nb, hma, hmb]
  by_cases p1 : a' < 0 <;> by_cases p2 : b' < 0
  · have : ¬ a' * b' < 0 := by have := Int.mul_pos_of_neg_of_neg p1 p2; omega
    simp [p1, p2, this]
  · have : a' * b' < 0 := Int.mul_neg_of_neg_of_pos p1 (by omega)
    simp [p1, p2, this]
  · have : a' * b' < 0 := Int.mul_neg_of_pos_of_neg (by omega) p2
    simp [p1, p2, this]
  · have : ¬ a' * b' < 0 := by have := Int.mul_nonneg (Int.not_lt.1 p1) (Int.not_lt.1 p2); omega
    simp [p1, p2, this]
def mulS (aN aD bN bD : Int) : Int × Int × Int := if Right aN aD ∧ Right bN bD then out (q aN aD * q bN bD) else (0, 0, 2)
theorem big_put {n d : Nat} {m : Bool} (h : ¬ n < 18446744073709551616 ∨ ¬ d < 18446744073709551616) : put n d m = (0, 0, 3) := by
  unfold BallQ.put
  rw [if_neg]
  intro h2
  rcases h with h | h
  · exact h (lt64 h2.1)
  · exact h (lt64 h2.2)
theorem out_ok {x : Rat} (h : fits x) : out x = (x.num, (x.den : Int), 0) := by unfold BallQ.out; rw [if_pos h]
theorem out_over {x : Rat} (h : ¬ fits x) : out x = (0, 0, 3) := by unfold BallQ.out; rw [if_neg h]
theorem right_neg {n d : Int} (h : Right n d) (hn : In64 n) : Right (-n) d ∧ In64 (-n) ∧ q (-n) d = -q n d := by
  obtain ⟨h0, h1, h2⟩ := h
  obtain ⟨n0, n1⟩ := hn
  refine ⟨⟨h0, by omega, by rw [Int.natAbs_neg]; exact h2⟩, ⟨by omega, by omega⟩, ?_⟩
  unfold BallQ.q
  rw [Rat.neg_mkRat]
end Go.E
end
section
set_option linter.all false
set_option maxRecDepth 100000
namespace Go.E.Ref
open Go Go.Proofs Go.Eng BallBits
variable {TB : Nat → Option Obj}
def eB (b : Bool) : List PV := [.bool b]
abbrev bG (l : List Bool) : GV := .p (.sl (l.map eB))
theorem sz_bits (l : List Bool) : sizes (l.map eB) 1 := sizes_map (f := eB) (fun _ => rfl) l
theorem sz_bit (b : Bool) : sizes [[PV.bool b]] 1 := by exact sizes_cons (by rfl) sizes_nil
attribute [simp] sz_bits sz_bit
def bitAt (l : List Bool) (i : Nat) : Bool := l.getD i false
theorem bit_at (l : List Bool) (i : Nat) (h : i < l.length) : (l.map eB)[i]? = some [.bool (bitAt l i)] := by
  rw [List.getElem?_map, List.getElem?_eq_getElem h]
  unfold bitAt
  rw [List.getD_eq_getElem?_getD, List.getElem?_eq_getElem h]; rfl
theorem bitAt_far {l : List Bool} {i : Nat} (h : l.length ≤ i) : bitAt l i = false := by
  simp [bitAt, List.getD_eq_getElem?_getD, List.getElem?_eq_none h]
theorem bit_get (l : List Bool) (i : Nat) (h : i < l.length) : l[i] = bitAt l i := by
  unfold bitAt
  rw [List.getD_eq_getElem?_getD, List.getElem?_eq_getElem h]; rfl
theorem bit_ev (l : List Bool) (i : Nat) (d : Nat) (G : Heap) : Tel Try.prog TB d 78 [bG l, .p (.int .i64 (i : Int))] G (.p (.bool (bitAt l i))) G := by
  refine Tel.intro mix Try.func78 rfl (Nat.le_of_ble_eq_true rfl) {} (by kernel_rfl) (by kernel_rfl) ?_
  by_cases h : i < l.length
  · simp -implicitDefEqProofs [-Int.natCast_ediv, -Int.natCast_emod, -Int.natCast_mul, -Int.natCast_add, Try.results78, h, bit_get l i h, eB]
  · simp -implicitDefEqProofs [-Int.natCast_ediv, -Int.natCast_emod, -Int.natCast_mul, -Int.natCast_add, Try.results78, h, bitAt_far (Nat.not_lt.1 h)]
theorem trim_ev (l : List Bool) (hl : l.length ≤ 1000000) (d : Nat) (G : Heap) : Tel Try.prog TB d 75 [bG l] G (bG (bof (nv l))) G := by
  refine Tel.intro mix Try.func75 rfl (Nat.le_of_ble_eq_true rfl) {} (by kernel_rfl) (by kernel_rfl) ?_
  simp -implicitDefEqProofs [-Int.natCast_ediv, -Int.natCast_emod, -Int.natCast_mul, -Int.natCast_add, Try.results75]
  refine gwp_loop (fun k s => s.F 0 = bG l ∧ s.F 3 = .p (.int .i64 (k : Int)) ∧ s.G = cut d G ∧ k ≤ l.length ∧ nv (l.take k) = nv l) (m := l.length) ⟨by simp -implicitDefEqProofs [-Int.natCast_ediv, -Int.natCast_emod, -Int.natCast_mul, -Int.natCast_add, ], by simp -implicitDefEqProofs [-Int.natCast_ediv, -Int.natCast_emod, -Int.natCast_mul, -Int.natCast_add, ], by simp -implicitDefEqProofs [-Int.natCast_ediv, -Int.natCast_emod, -Int.natCast_mul, -Int.natCast_add, ], Nat.le_refl _, by simp⟩ ?_
  rintro k s ⟨h0, h3, hG, hk, hn⟩
  cases k with
  | zero =>
    have : nv l = 0 := by simpa [nv] using hn.symm
    simp -implicitDefEqProofs [-Int.natCast_ediv, -Int.natCast_emod, -Int.natCast_mul, -Int.natCast_add, h0, h3, hG, this, bof_zero]
  | succ k =>
    have hw : IntKind.i64.wrap (((k + 1 : Nat) : Int) - 1) = (k : Int) := by rw [wi64]; omega
    have hp : (0 : Int) < ((k + 1 : Nat) : Int) := by omega
    by_cases hb : bitAt l k = true
    · have ht := take_one_bof l k hk hb
      rw [hn] at ht
      simp -implicitDefEqProofs [-Int.natCast_ediv, -Int.natCast_emod, -Int.natCast_mul, -Int.natCast_add, h0, h3, hG, hw, hp, bit_at l k hk, hb, -List.getElem?_map, ht, List.map_take, hk]
    · have hb' : bitAt l k = false := by simpa using hb
      simp -implicitDefEqProofs [-Int.natCast_ediv, -Int.natCast_emod, -Int.natCast_mul, -Int.natCast_add, h0, h3, hG, hw, hp, bit_at l k hk, hb', -List.getElem?_map]
      refine ⟨k, Nat.lt_succ_self k, rfl, by omega, ?_⟩
      rw [← hn, nv_take_succ l k hk]
      unfold bitAt at hb'
      rw [hb']; simp
theorem of_ev (n : Nat) (hn : n < 18446744073709551616) (d : Nat) (G : Heap) : Tel Try.prog TB d 46 [.p (.int .u64 (n : Int))] G (bG (bof n)) G := by
  refine Tel.intro mix Try.func46 rfl (Nat.le_of_ble_eq_true rfl) {} (by kernel_rfl) (by kernel_rfl) ?_
  simp -implicitDefEqProofs [-Int.natCast_ediv, -Int.natCast_emod, -Int.natCast_mul, -Int.natCast_add, Try.results46]
  refine gwp_loop (fun k s => ∃ out : List Bool, s.F 0 = .p (.int .u64 (k : Int)) ∧ Grow s.G (d + 1) 11 1 (out.map eB) (s.F 3) ∧ agree d s.G G ∧ out ++ bof k = bof n ∧ out.length + (bof k).length ≤ 64 ∧ k < 18446744073709551616) (m := n)
    ⟨[], by simp -implicitDefEqProofs [-Int.natCast_ediv, -Int.natCast_emod, -Int.natCast_mul, -Int.natCast_add, ], by simp -implicitDefEqProofs [-Int.natCast_ediv, -Int.natCast_emod, -Int.natCast_mul, -Int.natCast_add, ]; exact Grow.start (by simp), by simp -implicitDefEqProofs [-Int.natCast_ediv, -Int.natCast_emod, -Int.natCast_mul, -Int.natCast_add, ], by simp, by simpa using length_bof_le (m := 64) hn, hn⟩ ?_
  rintro k s ⟨out, h0, h3, hA, ho, hl, hk⟩
  by_cases h : k = 0
  · subst h
    rw [bof_zero, List.append_nil] at ho
    subst ho
    rcases h3 with ⟨h3, _⟩ | ⟨h3, _⟩
    · simp -implicitDefEqProofs [-Int.natCast_ediv, -Int.natCast_emod, -Int.natCast_mul, -Int.natCast_add, h0, h3, hA]
    · simp -implicitDefEqProofs [-Int.natCast_ediv, -Int.natCast_emod, -Int.natCast_mul, -Int.natCast_add, h0, h3, hA]
  · have hp : 0 < k := by omega
    have e1 : IntKind.u64.wrap ((k : Int) / 2) = ((k / 2 : Nat) : Int) := by rw [wu64]; omega
    have e2' : decide ((k : Int).tmod 2 = 1) = (k % 2 == 1) := by
      rw [Int.tmod_eq_emod_of_nonneg (by omega)]
      rcases Nat.mod_two_eq_zero_or_one k with e | e
      · have : (k : Int) % 2 = 0 := by omega
        rw [this, e]; rfl
      · have : (k : Int) % 2 = 1 := by omega
        rw [this, e]; rfl
    rw [bof_pos h] at ho hl
    simp -implicitDefEqProofs [-Int.natCast_ediv, -Int.natCast_emod, -Int.natCast_mul, -Int.natCast_add, h0, h, hp]
    refine append_grow (es := out.map eB) (xs := [eB (k % 2 == 1)]) h3 (by simp; exact ⟨rfl, rfl⟩) (by simp -implicitDefEqProofs [-Int.natCast_ediv, -Int.natCast_emod, -Int.natCast_mul, -Int.natCast_add, e2', eB, srcOf]) rfl (by simp) (by simp [eB]) (by simp at hl ⊢; omega) (by simp) ?_
    intro G' hg hf ha
    simp -implicitDefEqProofs [-Int.natCast_ediv, -Int.natCast_emod, -Int.natCast_mul, -Int.natCast_add, e1, h0]
    refine ⟨k / 2, by omega, rfl, out ++ [k % 2 == 1], .inr ⟨by simp, by simpa using hg⟩, ha _ _ (by omega) hA, by simpa using ho, by simp at hl ⊢; omega, by omega⟩
theorem add_arith {p c u v x y q s o t : Nat} (h : c + u + v = q + 2 * s) (h4 : o + p * (c + (u + 2 * x) + (v + 2 * y)) = t) : o + p * q + p * 2 * (s + x + y) = t := by
  rw [← h4]
  have : c + (u + 2 * x) + (v + 2 * y) = q + 2 * (s + x + y) := by omega
  rw [this, Nat.mul_add p q, Nat.mul_assoc, Nat.add_assoc]
theorem half_of (n : Nat) (hn : n ≤ 3) : decide ((n : Int).tmod 2 = 1) = (n % 2 == 1) ∧ IntKind.i64.wrap ((n : Int) / 2) = ((n / 2 : Nat) : Int) := by
  have : n = 0 ∨ n = 1 ∨ n = 2 ∨ n = 3 := by omega
  rw [wi64]
  rcases this with rfl | rfl | rfl | rfl <;> decide
theorem add_round {a b out : List Bool} {c n : Nat} (hn : n = c + (bitAt a out.length).toNat + (bitAt b out.length).toNat)
    (h4 : nv out + 2 ^ out.length * (c + nv (a.drop out.length) + nv (b.drop out.length)) = nv a + nv b) :
    nv (out ++ [n % 2 == 1]) + 2 ^ (out ++ [n % 2 == 1]).length * (n / 2 + nv (a.drop (out ++ [n % 2 == 1]).length) + nv (b.drop (out ++ [n % 2 == 1]).length)) = nv a + nv b := by
  have da := nv_drop' a out.length
  have db := nv_drop' b out.length
  rw [da, db] at h4
  have hnv : nv (out ++ [n % 2 == 1]) = nv out + 2 ^ out.length * (n % 2) := by
    rw [nv_append]; rcases Nat.mod_two_eq_zero_or_one n with e | e <;> simp [nv, e]
  rw [hnv]
  simp only [List.length_append, List.length_singleton, Nat.pow_succ]
  unfold bitAt at hn
  exact add_arith (by have := Nat.mod_add_div n 2; omega) h4
theorem add_next {d k n c : Nat} {a b out : List Bool} {G G' : Heap} (hn : n = c + (bitAt a out.length).toNat + (bitAt b out.length).toNat)
    (h4 : nv out + 2 ^ out.length * (c + nv (a.drop out.length) + nv (b.drop out.length)) = nv a + nv b) (hc : c ≤ 1) (hk : out.length + k = max a.length b.length + 1) (hk1 : 0 < k)
    (hg : get G' (d + 1, 39, 0) = some (.tok (out.map eB ++ [eB (n % 2 == 1)]).length 1)) (hA : agree d G' G) (g43 : G' (d + 1) 43 = []) (g26 : G' (d + 1) 26 = []) (g31 : G' (d + 1) 31 = []) :
    ∃ k', k' < k ∧ ∃ (x : List Bool) (x_1 : Nat), ((n / 2 : Nat) : Int) = (x_1 : Int) ∧ ((out.length + 1 : Nat) : Int) = (x.length : Int) ∧ Grow G' (d + 1) 39 1 (x.map eB) (.tsl (out.map eB ++ [eB (n % 2 == 1)]) (d + 1, 39, 0)) ∧ agree d G' G ∧
      G' (d + 1) 43 = [] ∧ G' (d + 1) 26 = [] ∧ G' (d + 1) 31 = [] ∧ x_1 ≤ 1 ∧ x.length + k' = max a.length b.length + 1 ∧ (k' = 0 → x_1 = 0) ∧
      nv x + 2 ^ x.length * (x_1 + nv (a.drop x.length) + nv (b.drop x.length)) = nv a + nv b := by
  have ba := Bool.toNat_le (bitAt a out.length)
  have bb := Bool.toNat_le (bitAt b out.length)
  refine ⟨k - 1, by omega, out ++ [n % 2 == 1], n / 2, rfl, by simp, .inr ⟨by simp, by simpa using hg⟩, hA, g43, g26, g31, by omega, by simp; omega, fun h => ?_, add_round hn h4⟩
  rw [bitAt_far (by omega : a.length ≤ out.length), bitAt_far (by omega : b.length ≤ out.length)] at hn
  simp at hn
  omega
theorem add_ev (a b : List Bool) (ha : a.length ≤ 100000) (hb : b.length ≤ 100000) (d : Nat) (G : Heap) : Tel Try.prog TB d 45 [bG a, bG b] G (bG (bof (nv a + nv b))) G := by
  refine Tel.intro mix Try.func45 rfl (Nat.le_of_ble_eq_true rfl) {} (by kernel_rfl) (by kernel_rfl) ?_
  simp -implicitDefEqProofs [-Int.natCast_ediv, -Int.natCast_emod, -Int.natCast_mul, -Int.natCast_add, Try.results45]
  refine gwp_loop (fun k s => ∃ (out : List Bool) (c : Nat), s.F 0 = bG a ∧ s.F 1 = bG b ∧ s.F 6 = .p (.int .i64 (c : Int)) ∧ s.F 7 = .p (.int .i64 (out.length : Int)) ∧ Grow s.G (d + 1) 39 1 (out.map eB) (s.F 5) ∧ agree d s.G G ∧ s.G (d + 1) 43 = [] ∧ s.G (d + 1) 26 = [] ∧ s.G (d + 1) 31 = [] ∧
      c ≤ 1 ∧ out.length + k = max a.length b.length + 1 ∧ (k = 0 → c = 0) ∧ nv out + 2 ^ out.length * (c + nv (a.drop out.length) + nv (b.drop out.length)) = nv a + nv b) (m := max a.length b.length + 1)
    ⟨[], 0, by simp -implicitDefEqProofs [-Int.natCast_ediv, -Int.natCast_emod, -Int.natCast_mul, -Int.natCast_add, ], by simp -implicitDefEqProofs [-Int.natCast_ediv, -Int.natCast_emod, -Int.natCast_mul, -Int.natCast_add, ], by simp -implicitDefEqProofs [-Int.natCast_ediv, -Int.natCast_emod, -Int.natCast_mul, -Int.natCast_add, ], by simp -implicitDefEqProofs [-Int.natCast_ediv, -Int.natCast_emod, -Int.natCast_mul, -Int.natCast_add, ], by simp -implicitDefEqProofs [-Int.natCast_ediv, -Int.natCast_emod, -Int.natCast_mul, -Int.natCast_add, ]; exact Grow.start (by simp), by simp -implicitDefEqProofs [-Int.natCast_ediv, -Int.natCast_emod, -Int.natCast_mul, -Int.natCast_add, ], by simp -implicitDefEqProofs [-Int.natCast_ediv, -Int.natCast_emod, -Int.natCast_mul, -Int.natCast_add, ], by simp -implicitDefEqProofs [-Int.natCast_ediv, -Int.natCast_emod, -Int.natCast_mul, -Int.natCast_add, ], by simp -implicitDefEqProofs [-Int.natCast_ediv, -Int.natCast_emod, -Int.natCast_mul, -Int.natCast_add, ], by omega, by simp, by simp, by simp [nv]⟩ ?_
  rintro k s ⟨out, c, h0, h1, h6, h7, h5, hA, g43, g26, g31, hc, hk, hk0, h4⟩
  by_cases hend : ¬ out.length < a.length ∧ ¬ out.length < b.length ∧ c = 0
  · obtain ⟨e1, e2, rfl⟩ := hend
    have hnv : nv out = nv a + nv b := by
      rw [← h4, List.drop_eq_nil_of_le (by omega), List.drop_eq_nil_of_le (by omega)]; simp [nv]
    simp -implicitDefEqProofs [-Int.natCast_ediv, -Int.natCast_emod, -Int.natCast_mul, -Int.natCast_add, h0, h1, h6, h7, e1, e2]
    refine callp (trim_ev out (by omega) _ _) ?_ (hw := by simp [h5.wk]) (hf := g43)
    simp -implicitDefEqProofs [-Int.natCast_ediv, -Int.natCast_emod, -Int.natCast_mul, -Int.natCast_add, Try.results45, hA, hnv]
  · have wl : IntKind.i64.wrap ((out.length : Int) + 1) = ((out.length + 1 : Nat) : Int) := by rw [wi64]; omega
    have ws0 : IntKind.i64.wrap ((c : Int) + 1) = ((c + 1 : Nat) : Int) := by rw [wi64]; omega
    have ws1 : IntKind.i64.wrap (((c + 1 : Nat) : Int) + 1) = ((c + 2 : Nat) : Int) := by rw [wi64]; omega
    have hk1 : 0 < k := by
      rcases Nat.eq_zero_or_pos k with h | h
      · exact absurd ⟨by omega, by omega, hk0 h⟩ hend
      · exact h
    by_cases e1 : out.length < a.length
    · cases hA' : bitAt a out.length <;> cases hB' : bitAt b out.length
      · have hn : c = c + (bitAt a out.length).toNat + (bitAt b out.length).toNat := by rw [hA', hB']; simp
        obtain ⟨k1, k2⟩ := half_of (c) (by omega)
        simp -implicitDefEqProofs [-Int.natCast_ediv, -Int.natCast_emod, -Int.natCast_mul, -Int.natCast_add, h0, h1, h6, h7, e1]
        refine callp (bit_ev a out.length _ _) ?_ (hf := g26)
        simp -implicitDefEqProofs [-Int.natCast_ediv, -Int.natCast_emod, -Int.natCast_mul, -Int.natCast_add, h0, h1, h6, h7, hA', ws0]
        refine callp (bit_ev b out.length _ _) ?_ (hf := g31)
        simp -implicitDefEqProofs [-Int.natCast_ediv, -Int.natCast_emod, -Int.natCast_mul, -Int.natCast_add, h0, h1, h6, h7, hB', ws0, ws1]
        refine append_grow (es := out.map eB) (xs := [eB ((c) % 2 == 1)]) h5 (by simp; exact ⟨rfl, rfl⟩) (by simp -implicitDefEqProofs [-Int.natCast_ediv, -Int.natCast_emod, -Int.natCast_mul, -Int.natCast_add, k1, eB, srcOf]) rfl (by simp) (by simp [eB]) (by simp; omega) (by simp) ?_
        intro G' hg hf ha
        simp -implicitDefEqProofs [-Int.natCast_ediv, -Int.natCast_emod, -Int.natCast_mul, -Int.natCast_add, h0, h1, h6, h7, k2, wl]
        exact add_next hn h4 hc hk hk1 hg (ha _ _ (by omega) hA) ((hf _ _ (by omega)).trans g43) ((hf _ _ (by omega)).trans g26) ((hf _ _ (by omega)).trans g31)
      · have hn : c + 1 = c + (bitAt a out.length).toNat + (bitAt b out.length).toNat := by rw [hA', hB']; simp
        obtain ⟨k1, k2⟩ := half_of (c + 1) (by omega)
        simp -implicitDefEqProofs [-Int.natCast_ediv, -Int.natCast_emod, -Int.natCast_mul, -Int.natCast_add, h0, h1, h6, h7, e1]
        refine callp (bit_ev a out.length _ _) ?_ (hf := g26)
        simp -implicitDefEqProofs [-Int.natCast_ediv, -Int.natCast_emod, -Int.natCast_mul, -Int.natCast_add, h0, h1, h6, h7, hA', ws0]
        refine callp (bit_ev b out.length _ _) ?_ (hf := g31)
        simp -implicitDefEqProofs [-Int.natCast_ediv, -Int.natCast_emod, -Int.natCast_mul, -Int.natCast_add, h0, h1, h6, h7, hB', ws0, ws1]
        refine append_grow (es := out.map eB) (xs := [eB ((c + 1) % 2 == 1)]) h5 (by simp; exact ⟨rfl, rfl⟩) (by simp -implicitDefEqProofs [-Int.natCast_ediv, -Int.natCast_emod, -Int.natCast_mul, -Int.natCast_add, k1, eB, srcOf]) rfl (by simp) (by simp [eB]) (by simp; omega) (by simp) ?_
        intro G' hg hf ha
        simp -implicitDefEqProofs [-Int.natCast_ediv, -Int.natCast_emod, -Int.natCast_mul, -Int.natCast_add, h0, h1, h6, h7, k2, wl]
        exact add_next hn h4 hc hk hk1 hg (ha _ _ (by omega) hA) ((hf _ _ (by omega)).trans g43) ((hf _ _ (by omega)).trans g26) ((hf _ _ (by omega)).trans g31)
      · have hn : c + 1 = c + (bitAt a out.length).toNat + (bitAt b out.length).toNat := by rw [hA', hB']; simp
        obtain ⟨k1, k2⟩ := half_of (c + 1) (by omega)
        simp -implicitDefEqProofs [-Int.natCast_ediv, -Int.natCast_emod, -Int.natCast_mul, -Int.natCast_add, h0, h1, h6, h7, e1]
        refine callp (bit_ev a out.length _ _) ?_ (hf := g26)
        simp -implicitDefEqProofs [-Int.natCast_ediv, -Int.natCast_emod, -Int.natCast_mul, -Int.natCast_add, h0, h1, h6, h7, hA', ws0]
        refine callp (bit_ev b out.length _ _) ?_ (hf := g31)
        simp -implicitDefEqProofs [-Int.natCast_ediv, -Int.natCast_emod, -Int.natCast_mul, -Int.natCast_add, h0, h1, h6, h7, hB', ws0, ws1]
        refine append_grow (es := out.map eB) (xs := [eB ((c + 1) % 2 == 1)]) h5 (by simp; exact ⟨rfl, rfl⟩) (by simp -implicitDefEqProofs [-Int.natCast_ediv, -Int.natCast_emod, -Int.natCast_mul, -Int.natCast_add, k1, eB, srcOf]) rfl (by simp) (by simp [eB]) (by simp; omega) (by simp) ?_
        intro G' hg hf ha
        simp -implicitDefEqProofs [-Int.natCast_ediv, -Int.natCast_emod, -Int.natCast_mul, -Int.natCast_add, h0, h1, h6, h7, k2, wl]
        exact add_next hn h4 hc hk hk1 hg (ha _ _ (by omega) hA) ((hf _ _ (by omega)).trans g43) ((hf _ _ (by omega)).trans g26) ((hf _ _ (by omega)).trans g31)
      · have hn : c + 2 = c + (bitAt a out.length).toNat + (bitAt b out.length).toNat := by rw [hA', hB']; simp
        obtain ⟨k1, k2⟩ := half_of (c + 2) (by omega)
        simp -implicitDefEqProofs [-Int.natCast_ediv, -Int.natCast_emod, -Int.natCast_mul, -Int.natCast_add, h0, h1, h6, h7, e1]
        refine callp (bit_ev a out.length _ _) ?_ (hf := g26)
        simp -implicitDefEqProofs [-Int.natCast_ediv, -Int.natCast_emod, -Int.natCast_mul, -Int.natCast_add, h0, h1, h6, h7, hA', ws0]
        refine callp (bit_ev b out.length _ _) ?_ (hf := g31)
        simp -implicitDefEqProofs [-Int.natCast_ediv, -Int.natCast_emod, -Int.natCast_mul, -Int.natCast_add, h0, h1, h6, h7, hB', ws0, ws1]
        refine append_grow (es := out.map eB) (xs := [eB ((c + 2) % 2 == 1)]) h5 (by simp; exact ⟨rfl, rfl⟩) (by simp -implicitDefEqProofs [-Int.natCast_ediv, -Int.natCast_emod, -Int.natCast_mul, -Int.natCast_add, k1, eB, srcOf]) rfl (by simp) (by simp [eB]) (by simp; omega) (by simp) ?_
        intro G' hg hf ha
        simp -implicitDefEqProofs [-Int.natCast_ediv, -Int.natCast_emod, -Int.natCast_mul, -Int.natCast_add, h0, h1, h6, h7, k2, wl]
        have nx := add_next hn h4 hc hk hk1 hg (ha _ _ (by omega) hA) ((hf _ _ (by omega)).trans g43) ((hf _ _ (by omega)).trans g26) ((hf _ _ (by omega)).trans g31)
        rw [show (c + 2) / 2 = c / 2 + 1 by omega, show (c + 2) % 2 = c % 2 by omega] at nx
        exact nx
    · have hA' := bitAt_far (Nat.not_lt.1 e1)
      by_cases e2 : out.length < b.length
      · cases hB' : bitAt b out.length
        · have hn : c = c + (bitAt a out.length).toNat + (bitAt b out.length).toNat := by rw [hA', hB']; simp
          obtain ⟨k1, k2⟩ := half_of (c) (by omega)
          simp -implicitDefEqProofs [-Int.natCast_ediv, -Int.natCast_emod, -Int.natCast_mul, -Int.natCast_add, h0, h1, h6, h7, e1, e2]
          refine callp (bit_ev a out.length _ _) ?_ (hf := g26)
          simp -implicitDefEqProofs [-Int.natCast_ediv, -Int.natCast_emod, -Int.natCast_mul, -Int.natCast_add, h0, h1, h6, h7, hA', ws0]
          refine callp (bit_ev b out.length _ _) ?_ (hf := g31)
          simp -implicitDefEqProofs [-Int.natCast_ediv, -Int.natCast_emod, -Int.natCast_mul, -Int.natCast_add, h0, h1, h6, h7, hB', ws0, ws1]
          refine append_grow (es := out.map eB) (xs := [eB ((c) % 2 == 1)]) h5 (by simp; exact ⟨rfl, rfl⟩) (by simp -implicitDefEqProofs [-Int.natCast_ediv, -Int.natCast_emod, -Int.natCast_mul, -Int.natCast_add, k1, eB, srcOf]) rfl (by simp) (by simp [eB]) (by simp; omega) (by simp) ?_
          intro G' hg hf ha
          simp -implicitDefEqProofs [-Int.natCast_ediv, -Int.natCast_emod, -Int.natCast_mul, -Int.natCast_add, h0, h1, h6, h7, k2, wl]
          exact add_next hn h4 hc hk hk1 hg (ha _ _ (by omega) hA) ((hf _ _ (by omega)).trans g43) ((hf _ _ (by omega)).trans g26) ((hf _ _ (by omega)).trans g31)
        · have hn : c + 1 = c + (bitAt a out.length).toNat + (bitAt b out.length).toNat := by rw [hA', hB']; simp
          obtain ⟨k1, k2⟩ := half_of (c + 1) (by omega)
          simp -implicitDefEqProofs [-Int.natCast_ediv, -Int.natCast_emod, -Int.natCast_mul, -Int.natCast_add, h0, h1, h6, h7, e1, e2]
          refine callp (bit_ev a out.length _ _) ?_ (hf := g26)
          simp -implicitDefEqProofs [-Int.natCast_ediv, -Int.natCast_emod, -Int.natCast_mul, -Int.natCast_add, h0, h1, h6, h7, hA', ws0]
          refine callp (bit_ev b out.length _ _) ?_ (hf := g31)
          simp -implicitDefEqProofs [-Int.natCast_ediv, -Int.natCast_emod, -Int.natCast_mul, -Int.natCast_add, h0, h1, h6, h7, hB', ws0, ws1]
          refine append_grow (es := out.map eB) (xs := [eB ((c + 1) % 2 == 1)]) h5 (by simp; exact ⟨rfl, rfl⟩) (by simp -implicitDefEqProofs [-Int.natCast_ediv, -Int.natCast_emod, -Int.natCast_mul, -Int.natCast_add, k1, eB, srcOf]) rfl (by simp) (by simp [eB]) (by simp; omega) (by simp) ?_
          intro G' hg hf ha
          simp -implicitDefEqProofs [-Int.natCast_ediv, -Int.natCast_emod, -Int.natCast_mul, -Int.natCast_add, h0, h1, h6, h7, k2, wl]
          exact add_next hn h4 hc hk hk1 hg (ha _ _ (by omega) hA) ((hf _ _ (by omega)).trans g43) ((hf _ _ (by omega)).trans g26) ((hf _ _ (by omega)).trans g31)
      · have hB' := bitAt_far (Nat.not_lt.1 e2)
        have hc0 : 0 < c := by
          rcases Nat.eq_zero_or_pos c with h | h
          · exact absurd ⟨e1, e2, h⟩ hend
          · exact h
        have hn : c = c + (bitAt a out.length).toNat + (bitAt b out.length).toNat := by rw [hA', hB']; simp
        obtain ⟨k1, k2⟩ := half_of (c) (by omega)
        simp -implicitDefEqProofs [-Int.natCast_ediv, -Int.natCast_emod, -Int.natCast_mul, -Int.natCast_add, h0, h1, h6, h7, e1, e2, hc0]
        refine callp (bit_ev a out.length _ _) ?_ (hf := g26)
        simp -implicitDefEqProofs [-Int.natCast_ediv, -Int.natCast_emod, -Int.natCast_mul, -Int.natCast_add, h0, h1, h6, h7, hA', ws0]
        refine callp (bit_ev b out.length _ _) ?_ (hf := g31)
        simp -implicitDefEqProofs [-Int.natCast_ediv, -Int.natCast_emod, -Int.natCast_mul, -Int.natCast_add, h0, h1, h6, h7, hB', ws0, ws1]
        refine append_grow (es := out.map eB) (xs := [eB ((c) % 2 == 1)]) h5 (by simp; exact ⟨rfl, rfl⟩) (by simp -implicitDefEqProofs [-Int.natCast_ediv, -Int.natCast_emod, -Int.natCast_mul, -Int.natCast_add, k1, eB, srcOf]) rfl (by simp) (by simp [eB]) (by simp; omega) (by simp) ?_
        intro G' hg hf ha
        simp -implicitDefEqProofs [-Int.natCast_ediv, -Int.natCast_emod, -Int.natCast_mul, -Int.natCast_add, h0, h1, h6, h7, k2, wl]
        exact add_next hn h4 hc hk hk1 hg (ha _ _ (by omega) hA) ((hf _ _ (by omega)).trans g43) ((hf _ _ (by omega)).trans g26) ((hf _ _ (by omega)).trans g31)
theorem less_step {a b : List Bool} {k : Nat} (hl : a.length = b.length) (hk : k < a.length) : decide (nv (a.take (k + 1)) < nv (b.take (k + 1))) = (if bitAt a k = bitAt b k then decide (nv (a.take k) < nv (b.take k)) else bitAt b k) := by
  have ta := nv_take_succ a k hk
  have tb := nv_take_succ b k (by omega)
  have la := nv_lt (a.take k)
  have lb := nv_lt (b.take k)
  rw [List.length_take, Nat.min_eq_left (by omega)] at la lb
  rw [ta, tb]
  unfold bitAt
  cases hA : a.getD k false <;> cases hB : b.getD k false <;> simp <;> omega
theorem less_ev (m n : Nat) (hm : (bof m).length ≤ 100000) (d : Nat) (G : Heap) : Tel Try.prog TB d 76 [bG (bof m), bG (bof n)] G (.p (.bool (decide (m < n)))) G := by
  refine Tel.intro mix Try.func76 rfl (Nat.le_of_ble_eq_true rfl) {} (by kernel_rfl) (by kernel_rfl) ?_
  by_cases h : (bof m).length = (bof n).length
  · have w1 : IntKind.i64.wrap (((bof n).length : Int) - 1) = ((bof n).length : Int) - 1 := by rw [wi64]; omega
    simp -implicitDefEqProofs [-Int.natCast_ediv, -Int.natCast_emod, -Int.natCast_mul, -Int.natCast_add, Try.results76, h, w1]
    have e0 : decide (m < n) = decide (nv ((bof m).take (bof n).length) < nv ((bof n).take (bof n).length)) := by
      rw [← h, List.take_length, h, List.take_length, nv_bof, nv_bof]
    rw [e0]
    have hm' : (bof n).length ≤ 100000 := by omega
    generalize bof m = a at *
    generalize bof n = b at *
    clear e0
    refine gwp_loop (fun k s => s.F 0 = bG a ∧ s.F 1 = bG b ∧ s.F 5 = .p (.int .i64 ((k : Int) - 1)) ∧ s.G = cut d G ∧ k ≤ a.length ∧ decide (nv (a.take b.length) < nv (b.take b.length)) = decide (nv (a.take k) < nv (b.take k))) (m := b.length)
      ⟨by simp -implicitDefEqProofs [-Int.natCast_ediv, -Int.natCast_emod, -Int.natCast_mul, -Int.natCast_add, ], by simp -implicitDefEqProofs [-Int.natCast_ediv, -Int.natCast_emod, -Int.natCast_mul, -Int.natCast_add, ], by simp -implicitDefEqProofs [-Int.natCast_ediv, -Int.natCast_emod, -Int.natCast_mul, -Int.natCast_add, ], by simp -implicitDefEqProofs [-Int.natCast_ediv, -Int.natCast_emod, -Int.natCast_mul, -Int.natCast_add, ], by omega, rfl⟩ ?_
    rintro k s ⟨h0, h1, h5, hG, hk, hd⟩
    rw [hd]
    cases k with
    | zero => simp -implicitDefEqProofs [-Int.natCast_ediv, -Int.natCast_emod, -Int.natCast_mul, -Int.natCast_add, h0, h1, h5, hG, nv]
    | succ k =>
      have st := less_step h (k := k) (by omega)
      rw [st]
      rw [st] at hd
      have e1 : (((k + 1 : Nat) : Int) - 1) = (k : Int) := by omega
      rw [e1] at h5
      have w2 : IntKind.i64.wrap ((k : Int) - 1) = (k : Int) - 1 := by rw [wi64]; omega
      have i1 := bit_at a k (by omega)
      have i2 := bit_at b k (by omega)
      cases hA : bitAt a k <;> cases hB : bitAt b k <;> rw [hA] at i1 <;> rw [hB] at i2 <;> rw [hA, hB] at hd <;> simp only [if_true, Bool.false_eq_true, Bool.true_eq_false, if_false, reduceIte] at hd ⊢
      · simp -implicitDefEqProofs [-Int.natCast_ediv, -Int.natCast_emod, -Int.natCast_mul, -Int.natCast_add, h0, h1, h5, hG, i1, i2, w2, -List.getElem?_map]
        exact ⟨k, Nat.lt_succ_self k, rfl, by omega, Iff.rfl⟩
      · simp -implicitDefEqProofs [-Int.natCast_ediv, -Int.natCast_emod, -Int.natCast_mul, -Int.natCast_add, h0, h1, h5, hG, i1, i2, w2, -List.getElem?_map]
      · simp -implicitDefEqProofs [-Int.natCast_ediv, -Int.natCast_emod, -Int.natCast_mul, -Int.natCast_add, h0, h1, h5, hG, i1, i2, w2, -List.getElem?_map]
      · simp -implicitDefEqProofs [-Int.natCast_ediv, -Int.natCast_emod, -Int.natCast_mul, -Int.natCast_add, h0, h1, h5, hG, i1, i2, w2, -List.getElem?_map]
        exact ⟨k, Nat.lt_succ_self k, rfl, by omega, Iff.rfl⟩
  · have e : ((bof m).length < (bof n).length) = (m < n) := by
      refine propext ⟨fun h1 => bof_length_eq_of (by omega), fun h1 => ?_⟩
      rcases Nat.lt_or_ge (bof m).length (bof n).length with h2 | h2
      · exact h2
      · have := bof_length_eq_of (a := n) (b := m) (by omega)
        omega
    have hz : ¬ (((bof m).length : Int) = ((bof n).length : Int)) := by omega
    simp -implicitDefEqProofs [-Int.natCast_ediv, -Int.natCast_emod, -Int.natCast_mul, -Int.natCast_add, Try.results76, hz, e]
theorem wl0 : IntKind.i64.wrap 0 = 0 := by decide
theorem wl1 : IntKind.i64.wrap 1 = 1 := by decide
theorem wl2 : IntKind.i64.wrap 2 = 2 := by decide
theorem wlm1 : IntKind.i64.wrap (-1) = -1 := by decide
theorem wlm2 : IntKind.i64.wrap (-2) = -2 := by decide
theorem sub_arith {o p x y u v s w q : Nat} (h4 : o + x = y + w * p) (h : q + v + w = u + 2 * s) : o + p * q + (x + p * v) = y + p * u + s * (p * 2) := by
  have e1 : p * q + p * v + w * p = p * u + s * (p * 2) := by
    have : p * (q + v + w) = p * (u + 2 * s) := by rw [h]
    grind
  omega
theorem sub_round {a b out : List Bool} {w q s : Nat} (ho : out.length < a.length) (hq : q ≤ 1) (he : q + (bitAt b out.length).toNat + w = (bitAt a out.length).toNat + 2 * s)
    (h4 : nv out + nv (b.take out.length) = nv (a.take out.length) + w * 2 ^ out.length) :
    nv (out ++ [q == 1]) + nv (b.take (out.length + 1)) = nv (a.take (out.length + 1)) + s * 2 ^ (out.length + 1) := by
  have hnv : nv (out ++ [q == 1]) = nv out + 2 ^ out.length * q := by
    rw [nv_append]
    have : q = 0 ∨ q = 1 := by omega
    rcases this with e | e <;> simp [nv, e]
  have hb2 : nv (b.take (out.length + 1)) = nv (b.take out.length) + 2 ^ out.length * (b.getD out.length false).toNat := by
    by_cases h : out.length < b.length
    · exact nv_take_succ b _ h
    · rw [List.take_of_length_le (by omega), List.take_of_length_le (by omega)]
      simp [List.getD_eq_getElem?_getD, List.getElem?_eq_none (by omega : b.length ≤ out.length)]
  rw [hnv, nv_take_succ a _ ho, Nat.pow_succ, hb2]
  exact sub_arith h4 he
theorem sub_end {a b out : List Bool} {w : Nat} (hw : w ≤ 1) (hle : nv b ≤ nv a) (hd : out.length = a.length) (h4 : nv out + nv (b.take out.length) = nv (a.take out.length) + w * 2 ^ out.length) : nv out = nv a - nv b := by
  rw [hd, List.take_length] at h4
  have lo := nv_lt out
  rw [hd] at lo
  have sp := nv_split b a.length
  have la := nv_lt a
  have hbt : nv (b.take a.length) = nv b := by
    rcases Nat.lt_or_ge a.length b.length with h | h
    · rw [Nat.min_eq_left (by omega)] at sp
      rcases Nat.eq_zero_or_pos (nv (b.drop a.length)) with e | e
      · rw [e] at sp; simpa using sp.symm
      · have : 2 ^ a.length * 1 ≤ 2 ^ a.length * nv (b.drop a.length) := Nat.mul_le_mul_left _ e
        omega
    · rw [List.take_of_length_le h]
  rw [hbt] at h4
  have : w = 0 := by
    rcases Nat.eq_zero_or_pos w with e | e
    · exact e
    · have : w = 1 := by omega
      subst this; omega
  subst this
  omega
theorem sub_next {d k q s w : Nat} {a b out : List Bool} {G G' : Heap} (hs : s ≤ 1) (hq : q ≤ 1) (he : q + (bitAt b out.length).toNat + w = (bitAt a out.length).toNat + 2 * s)
    (h4 : nv out + nv (b.take out.length) = nv (a.take out.length) + w * 2 ^ out.length) (hk : out.length + (k + 1) = a.length)
    (hg : get G' (d + 1, 35, 0) = some (.tok (out.map eB ++ [eB (q == 1)]).length 1)) (hA : agree d G' G) (g37 : G' (d + 1) 37 = []) (g19 : G' (d + 1) 19 = []) (g24 : G' (d + 1) 24 = []) :
    ∃ k', k' < k + 1 ∧ ∃ (x : List Bool) (x_1 : Nat), (s : Int) = (x_1 : Int) ∧ ((out.length + 1 : Nat) : Int) = (x.length : Int) ∧ Grow G' (d + 1) 35 1 (x.map eB) (.tsl (out.map eB ++ [eB (q == 1)]) (d + 1, 35, 0)) ∧ agree d G' G ∧
      G' (d + 1) 37 = [] ∧ G' (d + 1) 19 = [] ∧ G' (d + 1) 24 = [] ∧ x_1 ≤ 1 ∧ x.length + k' = a.length ∧
      nv x + nv (b.take x.length) = nv (a.take x.length) + x_1 * 2 ^ x.length :=
  ⟨k, Nat.lt_succ_self k, out ++ [q == 1], s, rfl, by simp, .inr ⟨by simp, by simpa using hg⟩, hA, g37, g19, g24, hs, by simp; omega, by simpa using sub_round (by omega) hq he h4⟩
theorem sub_ev (a b : List Bool) (ha : a.length ≤ 100000) (hle : nv b ≤ nv a) (d : Nat) (G : Heap) : Tel Try.prog TB d 77 [bG a, bG b] G (bG (bof (nv a - nv b))) G := by
  refine Tel.intro mix Try.func77 rfl (Nat.le_of_ble_eq_true rfl) {} (by kernel_rfl) (by kernel_rfl) ?_
  simp -implicitDefEqProofs [-Int.natCast_ediv, -Int.natCast_emod, -Int.natCast_mul, -Int.natCast_add, Try.results77]
  refine gwp_loop (fun k s => ∃ (out : List Bool) (c : Nat), s.F 0 = bG a ∧ s.F 1 = bG b ∧ s.F 6 = .p (.int .i64 (c : Int)) ∧ s.F 7 = .p (.int .i64 (out.length : Int)) ∧ Grow s.G (d + 1) 35 1 (out.map eB) (s.F 5) ∧ agree d s.G G ∧ s.G (d + 1) 37 = [] ∧ s.G (d + 1) 19 = [] ∧ s.G (d + 1) 24 = [] ∧
      c ≤ 1 ∧ out.length + k = a.length ∧ nv out + nv (b.take out.length) = nv (a.take out.length) + c * 2 ^ out.length) (m := a.length)
    ⟨[], 0, by simp -implicitDefEqProofs [-Int.natCast_ediv, -Int.natCast_emod, -Int.natCast_mul, -Int.natCast_add, ], by simp -implicitDefEqProofs [-Int.natCast_ediv, -Int.natCast_emod, -Int.natCast_mul, -Int.natCast_add, ], by simp -implicitDefEqProofs [-Int.natCast_ediv, -Int.natCast_emod, -Int.natCast_mul, -Int.natCast_add, ], by simp -implicitDefEqProofs [-Int.natCast_ediv, -Int.natCast_emod, -Int.natCast_mul, -Int.natCast_add, ], by simp -implicitDefEqProofs [-Int.natCast_ediv, -Int.natCast_emod, -Int.natCast_mul, -Int.natCast_add, ]; exact Grow.start (by simp), by simp -implicitDefEqProofs [-Int.natCast_ediv, -Int.natCast_emod, -Int.natCast_mul, -Int.natCast_add, ], by simp -implicitDefEqProofs [-Int.natCast_ediv, -Int.natCast_emod, -Int.natCast_mul, -Int.natCast_add, ], by simp -implicitDefEqProofs [-Int.natCast_ediv, -Int.natCast_emod, -Int.natCast_mul, -Int.natCast_add, ], by simp -implicitDefEqProofs [-Int.natCast_ediv, -Int.natCast_emod, -Int.natCast_mul, -Int.natCast_add, ], by omega, by simp, by simp [nv]⟩ ?_
  rintro k s ⟨out, c, h0, h1, h6, h7, h5, hA, g37, g19, g24, hc, hk, h4⟩
  cases k with
  | zero =>
    have e1 : ¬ (out.length < a.length) := by omega
    have hnv := sub_end hc hle (by omega) h4
    simp -implicitDefEqProofs [-Int.natCast_ediv, -Int.natCast_emod, -Int.natCast_mul, -Int.natCast_add, h0, h1, h6, h7, e1]
    refine callp (trim_ev out (by omega) _ _) ?_ (hw := by simp [h5.wk]) (hf := g37)
    simp -implicitDefEqProofs [-Int.natCast_ediv, -Int.natCast_emod, -Int.natCast_mul, -Int.natCast_add, Try.results77, hA, hnv]
  | succ k =>
    have e1 : out.length < a.length := by omega
    have wl : IntKind.i64.wrap ((out.length : Int) + 1) = ((out.length + 1 : Nat) : Int) := by rw [wi64]; omega
    have cc : c = 0 ∨ c = 1 := by omega
    rcases cc with rfl | rfl <;> cases hA' : bitAt a out.length <;> cases hB' : bitAt b out.length
    · have he : 0 + (bitAt b out.length).toNat + 0 = (bitAt a out.length).toNat + 2 * 0 := by rw [hA', hB']; rfl
      simp -implicitDefEqProofs [-Int.natCast_ediv, -Int.natCast_emod, -Int.natCast_mul, -Int.natCast_add, h0, h1, h6, h7, e1, wl0, wl1, wl2, wlm1, wlm2]
      refine callp (bit_ev a out.length _ _) ?_ (hf := g19)
      simp -implicitDefEqProofs [-Int.natCast_ediv, -Int.natCast_emod, -Int.natCast_mul, -Int.natCast_add, h0, h1, h6, h7, hA', wl0, wl1, wl2, wlm1, wlm2]
      refine callp (bit_ev b out.length _ _) ?_ (hf := g24)
      simp -implicitDefEqProofs [-Int.natCast_ediv, -Int.natCast_emod, -Int.natCast_mul, -Int.natCast_add, h0, h1, h6, h7, hB', wl0, wl1, wl2, wlm1, wlm2]
      refine append_grow (es := out.map eB) (xs := [eB (0 == 1)]) h5 (by simp; exact ⟨rfl, rfl⟩) (by simp -implicitDefEqProofs [-Int.natCast_ediv, -Int.natCast_emod, -Int.natCast_mul, -Int.natCast_add, eB, srcOf]) rfl (by simp) (by simp [eB]) (by simp; omega) (by simp) ?_
      intro G' hg hf ha
      simp -implicitDefEqProofs [-Int.natCast_ediv, -Int.natCast_emod, -Int.natCast_mul, -Int.natCast_add, h0, h1, h6, h7, wl, wl0, wl1, wl2, wlm1, wlm2]
      exact sub_next (q := 0) (s := 0) (by omega) (by omega) he h4 hk hg (ha _ _ (by omega) hA) ((hf _ _ (by omega)).trans g37) ((hf _ _ (by omega)).trans g19) ((hf _ _ (by omega)).trans g24)
    · have he : 1 + (bitAt b out.length).toNat + 0 = (bitAt a out.length).toNat + 2 * 1 := by rw [hA', hB']; rfl
      simp -implicitDefEqProofs [-Int.natCast_ediv, -Int.natCast_emod, -Int.natCast_mul, -Int.natCast_add, h0, h1, h6, h7, e1, wl0, wl1, wl2, wlm1, wlm2]
      refine callp (bit_ev a out.length _ _) ?_ (hf := g19)
      simp -implicitDefEqProofs [-Int.natCast_ediv, -Int.natCast_emod, -Int.natCast_mul, -Int.natCast_add, h0, h1, h6, h7, hA', wl0, wl1, wl2, wlm1, wlm2]
      refine callp (bit_ev b out.length _ _) ?_ (hf := g24)
      simp -implicitDefEqProofs [-Int.natCast_ediv, -Int.natCast_emod, -Int.natCast_mul, -Int.natCast_add, h0, h1, h6, h7, hB', wl0, wl1, wl2, wlm1, wlm2]
      refine append_grow (es := out.map eB) (xs := [eB (1 == 1)]) h5 (by simp; exact ⟨rfl, rfl⟩) (by simp -implicitDefEqProofs [-Int.natCast_ediv, -Int.natCast_emod, -Int.natCast_mul, -Int.natCast_add, eB, srcOf]) rfl (by simp) (by simp [eB]) (by simp; omega) (by simp) ?_
      intro G' hg hf ha
      simp -implicitDefEqProofs [-Int.natCast_ediv, -Int.natCast_emod, -Int.natCast_mul, -Int.natCast_add, h0, h1, h6, h7, wl, wl0, wl1, wl2, wlm1, wlm2]
      exact sub_next (q := 1) (s := 1) (by omega) (by omega) he h4 hk hg (ha _ _ (by omega) hA) ((hf _ _ (by omega)).trans g37) ((hf _ _ (by omega)).trans g19) ((hf _ _ (by omega)).trans g24)
    · have he : 1 + (bitAt b out.length).toNat + 0 = (bitAt a out.length).toNat + 2 * 0 := by rw [hA', hB']; rfl
      simp -implicitDefEqProofs [-Int.natCast_ediv, -Int.natCast_emod, -Int.natCast_mul, -Int.natCast_add, h0, h1, h6, h7, e1, wl0, wl1, wl2, wlm1, wlm2]
      refine callp (bit_ev a out.length _ _) ?_ (hf := g19)
      simp -implicitDefEqProofs [-Int.natCast_ediv, -Int.natCast_emod, -Int.natCast_mul, -Int.natCast_add, h0, h1, h6, h7, hA', wl0, wl1, wl2, wlm1, wlm2]
      refine callp (bit_ev b out.length _ _) ?_ (hf := g24)
      simp -implicitDefEqProofs [-Int.natCast_ediv, -Int.natCast_emod, -Int.natCast_mul, -Int.natCast_add, h0, h1, h6, h7, hB', wl0, wl1, wl2, wlm1, wlm2]
      refine append_grow (es := out.map eB) (xs := [eB (1 == 1)]) h5 (by simp; exact ⟨rfl, rfl⟩) (by simp -implicitDefEqProofs [-Int.natCast_ediv, -Int.natCast_emod, -Int.natCast_mul, -Int.natCast_add, eB, srcOf]) rfl (by simp) (by simp [eB]) (by simp; omega) (by simp) ?_
      intro G' hg hf ha
      simp -implicitDefEqProofs [-Int.natCast_ediv, -Int.natCast_emod, -Int.natCast_mul, -Int.natCast_add, h0, h1, h6, h7, wl, wl0, wl1, wl2, wlm1, wlm2]
      exact sub_next (q := 1) (s := 0) (by omega) (by omega) he h4 hk hg (ha _ _ (by omega) hA) ((hf _ _ (by omega)).trans g37) ((hf _ _ (by omega)).trans g19) ((hf _ _ (by omega)).trans g24)
    · have he : 0 + (bitAt b out.length).toNat + 0 = (bitAt a out.length).toNat + 2 * 0 := by rw [hA', hB']; rfl
      simp -implicitDefEqProofs [-Int.natCast_ediv, -Int.natCast_emod, -Int.natCast_mul, -Int.natCast_add, h0, h1, h6, h7, e1, wl0, wl1, wl2, wlm1, wlm2]
      refine callp (bit_ev a out.length _ _) ?_ (hf := g19)
      simp -implicitDefEqProofs [-Int.natCast_ediv, -Int.natCast_emod, -Int.natCast_mul, -Int.natCast_add, h0, h1, h6, h7, hA', wl0, wl1, wl2, wlm1, wlm2]
      refine callp (bit_ev b out.length _ _) ?_ (hf := g24)
      simp -implicitDefEqProofs [-Int.natCast_ediv, -Int.natCast_emod, -Int.natCast_mul, -Int.natCast_add, h0, h1, h6, h7, hB', wl0, wl1, wl2, wlm1, wlm2]
      refine append_grow (es := out.map eB) (xs := [eB (0 == 1)]) h5 (by simp; exact ⟨rfl, rfl⟩) (by simp -implicitDefEqProofs [-Int.natCast_ediv, -Int.natCast_emod, -Int.natCast_mul, -Int.natCast_add, eB, srcOf]) rfl (by simp) (by simp [eB]) (by simp; omega) (by simp) ?_
      intro G' hg hf ha
      simp -implicitDefEqProofs [-Int.natCast_ediv, -Int.natCast_emod, -Int.natCast_mul, -Int.natCast_add, h0, h1, h6, h7, wl, wl0, wl1, wl2, wlm1, wlm2]
      exact sub_next (q := 0) (s := 0) (by omega) (by omega) he h4 hk hg (ha _ _ (by omega) hA) ((hf _ _ (by omega)).trans g37) ((hf _ _ (by omega)).trans g19) ((hf _ _ (by omega)).trans g24)
    · have he : 1 + (bitAt b out.length).toNat + 1 = (bitAt a out.length).toNat + 2 * 1 := by rw [hA', hB']; rfl
      simp -implicitDefEqProofs [-Int.natCast_ediv, -Int.natCast_emod, -Int.natCast_mul, -Int.natCast_add, h0, h1, h6, h7, e1, wl0, wl1, wl2, wlm1, wlm2]
      refine callp (bit_ev a out.length _ _) ?_ (hf := g19)
      simp -implicitDefEqProofs [-Int.natCast_ediv, -Int.natCast_emod, -Int.natCast_mul, -Int.natCast_add, h0, h1, h6, h7, hA', wl0, wl1, wl2, wlm1, wlm2]
      refine callp (bit_ev b out.length _ _) ?_ (hf := g24)
      simp -implicitDefEqProofs [-Int.natCast_ediv, -Int.natCast_emod, -Int.natCast_mul, -Int.natCast_add, h0, h1, h6, h7, hB', wl0, wl1, wl2, wlm1, wlm2]
      refine append_grow (es := out.map eB) (xs := [eB (1 == 1)]) h5 (by simp; exact ⟨rfl, rfl⟩) (by simp -implicitDefEqProofs [-Int.natCast_ediv, -Int.natCast_emod, -Int.natCast_mul, -Int.natCast_add, eB, srcOf]) rfl (by simp) (by simp [eB]) (by simp; omega) (by simp) ?_
      intro G' hg hf ha
      simp -implicitDefEqProofs [-Int.natCast_ediv, -Int.natCast_emod, -Int.natCast_mul, -Int.natCast_add, h0, h1, h6, h7, wl, wl0, wl1, wl2, wlm1, wlm2]
      exact sub_next (q := 1) (s := 1) (by omega) (by omega) he h4 hk hg (ha _ _ (by omega) hA) ((hf _ _ (by omega)).trans g37) ((hf _ _ (by omega)).trans g19) ((hf _ _ (by omega)).trans g24)
    · have he : 0 + (bitAt b out.length).toNat + 1 = (bitAt a out.length).toNat + 2 * 1 := by rw [hA', hB']; rfl
      simp -implicitDefEqProofs [-Int.natCast_ediv, -Int.natCast_emod, -Int.natCast_mul, -Int.natCast_add, h0, h1, h6, h7, e1, wl0, wl1, wl2, wlm1, wlm2]
      refine callp (bit_ev a out.length _ _) ?_ (hf := g19)
      simp -implicitDefEqProofs [-Int.natCast_ediv, -Int.natCast_emod, -Int.natCast_mul, -Int.natCast_add, h0, h1, h6, h7, hA', wl0, wl1, wl2, wlm1, wlm2]
      refine callp (bit_ev b out.length _ _) ?_ (hf := g24)
      simp -implicitDefEqProofs [-Int.natCast_ediv, -Int.natCast_emod, -Int.natCast_mul, -Int.natCast_add, h0, h1, h6, h7, hB', wl0, wl1, wl2, wlm1, wlm2]
      refine append_grow (es := out.map eB) (xs := [eB (0 == 1)]) h5 (by simp; exact ⟨rfl, rfl⟩) (by simp -implicitDefEqProofs [-Int.natCast_ediv, -Int.natCast_emod, -Int.natCast_mul, -Int.natCast_add, eB, srcOf]) rfl (by simp) (by simp [eB]) (by simp; omega) (by simp) ?_
      intro G' hg hf ha
      simp -implicitDefEqProofs [-Int.natCast_ediv, -Int.natCast_emod, -Int.natCast_mul, -Int.natCast_add, h0, h1, h6, h7, wl, wl0, wl1, wl2, wlm1, wlm2]
      exact sub_next (q := 0) (s := 1) (by omega) (by omega) he h4 hk hg (ha _ _ (by omega) hA) ((hf _ _ (by omega)).trans g37) ((hf _ _ (by omega)).trans g19) ((hf _ _ (by omega)).trans g24)
    · have he : 0 + (bitAt b out.length).toNat + 1 = (bitAt a out.length).toNat + 2 * 0 := by rw [hA', hB']; rfl
      simp -implicitDefEqProofs [-Int.natCast_ediv, -Int.natCast_emod, -Int.natCast_mul, -Int.natCast_add, h0, h1, h6, h7, e1, wl0, wl1, wl2, wlm1, wlm2]
      refine callp (bit_ev a out.length _ _) ?_ (hf := g19)
      simp -implicitDefEqProofs [-Int.natCast_ediv, -Int.natCast_emod, -Int.natCast_mul, -Int.natCast_add, h0, h1, h6, h7, hA', wl0, wl1, wl2, wlm1, wlm2]
      refine callp (bit_ev b out.length _ _) ?_ (hf := g24)
      simp -implicitDefEqProofs [-Int.natCast_ediv, -Int.natCast_emod, -Int.natCast_mul, -Int.natCast_add, h0, h1, h6, h7, hB', wl0, wl1, wl2, wlm1, wlm2]
      refine append_grow (es := out.map eB) (xs := [eB (0 == 1)]) h5 (by simp; exact ⟨rfl, rfl⟩) (by simp -implicitDefEqProofs [-Int.natCast_ediv, -Int.natCast_emod, -Int.natCast_mul, -Int.natCast_add, eB, srcOf]) rfl (by simp) (by simp [eB]) (by simp; omega) (by simp) ?_
      intro G' hg hf ha
      simp -implicitDefEqProofs [-Int.natCast_ediv, -Int.natCast_emod, -Int.natCast_mul, -Int.natCast_add, h0, h1, h6, h7, wl, wl0, wl1, wl2, wlm1, wlm2]
      exact sub_next (q := 0) (s := 0) (by omega) (by omega) he h4 hk hg (ha _ _ (by omega) hA) ((hf _ _ (by omega)).trans g37) ((hf _ _ (by omega)).trans g19) ((hf _ _ (by omega)).trans g24)
    · have he : 1 + (bitAt b out.length).toNat + 1 = (bitAt a out.length).toNat + 2 * 1 := by rw [hA', hB']; rfl
      simp -implicitDefEqProofs [-Int.natCast_ediv, -Int.natCast_emod, -Int.natCast_mul, -Int.natCast_add, h0, h1, h6, h7, e1, wl0, wl1, wl2, wlm1, wlm2]
      refine callp (bit_ev a out.length _ _) ?_ (hf := g19)
      simp -implicitDefEqProofs [-Int.natCast_ediv, -Int.natCast_emod, -Int.natCast_mul, -Int.natCast_add, h0, h1, h6, h7, hA', wl0, wl1, wl2, wlm1, wlm2]
      refine callp (bit_ev b out.length _ _) ?_ (hf := g24)
      simp -implicitDefEqProofs [-Int.natCast_ediv, -Int.natCast_emod, -Int.natCast_mul, -Int.natCast_add, h0, h1, h6, h7, hB', wl0, wl1, wl2, wlm1, wlm2]
      refine append_grow (es := out.map eB) (xs := [eB (1 == 1)]) h5 (by simp; exact ⟨rfl, rfl⟩) (by simp -implicitDefEqProofs [-Int.natCast_ediv, -Int.natCast_emod, -Int.natCast_mul, -Int.natCast_add, eB, srcOf]) rfl (by simp) (by simp [eB]) (by simp; omega) (by simp) ?_
      intro G' hg hf ha
      simp -implicitDefEqProofs [-Int.natCast_ediv, -Int.natCast_emod, -Int.natCast_mul, -Int.natCast_add, h0, h1, h6, h7, wl, wl0, wl1, wl2, wlm1, wlm2]
      exact sub_next (q := 1) (s := 1) (by omega) (by omega) he h4 hk hg (ha _ _ (by omega) hA) ((hf _ _ (by omega)).trans g37) ((hf _ _ (by omega)).trans g19) ((hf _ _ (by omega)).trans g24)
end Go.E.Ref
end
section
set_option linter.all false
set_option maxRecDepth 100000
namespace Go.E.Ref
open Go Go.Proofs Go.Eng BallBits
variable {TB : Nat → Option Obj}
theorem src_pl {P : Program} {G : Heap} {t : TypeId} {n : Nat} {g : GV} {es : List (List PV)} (hs : isSl P t = true) (h : g = .p (.sl es) ∨ g = .csl es) : srcOf P G t n g = some es := by
  rcases h with rfl | rfl <;> simp [srcOf, hs, elems]
theorem bof_len_nv (x : List Bool) : (bof (nv x)).length ≤ x.length := length_bof_le (nv_lt x)
theorem div_step {A A' u m : Nat} (hA : A = u + 2 * A') (hu : u ≤ 1) (_hm : 0 < m) : (u + 2 * (A' % m) < m → A / m = 2 * (A' / m) ∧ A % m = u + 2 * (A' % m)) ∧ (¬ u + 2 * (A' % m) < m → A / m = 2 * (A' / m) + 1 ∧ A % m = u + 2 * (A' % m) - m) := by
  have h1 := Nat.mod_add_div A' m
  have h2 := Nat.mod_lt A' _hm
  generalize A' % m = R at *
  generalize A' / m = Q at *
  have h3 : u + 2 * R + m * (2 * Q) = A := by rw [hA, ← h1]; grind
  constructor
  · intro h
    exact (Nat.div_mod_unique _hm).2 ⟨h3, h⟩
  · intro h
    refine (Nat.div_mod_unique _hm).2 ⟨?_, by omega⟩
    rw [Nat.mul_add]; omega
def PlS (g : GV) (es : List (List PV)) : Prop := g = .p (.sl es) ∨ g = .csl es
theorem PlS.wk {g : GV} {es : List (List PV)} (h : PlS g es) : wkR g (.p (.sl es)) := by
  rcases h with rfl | rfl <;> unfold wkR
  · rfl
  · exact .inr rfl
theorem divide_ev (a : List Bool) (m : Nat) (hm : 0 < m) (ha : a.length ≤ 10000) (hb : (bof m).length ≤ 10000) (d : Nat) (G : Heap) : Tel Try.prog TB d 43 [bG a, bG (bof m)] G (.tup [bG (bof (nv a / m)), bG (bof (nv a % m))]) G := by
  refine Tel.intro mix Try.func43 rfl (Nat.le_of_ble_eq_true rfl) {pureAt := fun t => t == 26 || t == 39} (by kernel_rfl) (by kernel_rfl) ?_
  have w0 : IntKind.i64.wrap ((a.length : Int) - 1) = (a.length : Int) - 1 := by rw [wi64]; omega
  have hm0 : ¬ (bof m = []) := fun h => by have := bof_eq_nil.1 h; omega
  simp -implicitDefEqProofs [-Int.natCast_ediv, -Int.natCast_emod, -Int.natCast_mul, -Int.natCast_add, Try.results43, w0, hm0]
  refine gwp_loop (fun k s => ∃ q : List Bool, s.F 0 = bG a ∧ s.F 1 = bG (bof m) ∧ s.F 8 = .p (.int .i64 ((k : Int) - 1)) ∧ PlS (s.F 6) (q.map eB) ∧ PlS (s.F 7) ((bof (nv (a.drop k) % m)).map eB) ∧ s.G = cut d G ∧ k ≤ a.length ∧ q.length + k = a.length ∧ nv q = nv (a.drop k) / m) (m := a.length)
    ⟨[], by simp -implicitDefEqProofs [-Int.natCast_ediv, -Int.natCast_emod, -Int.natCast_mul, -Int.natCast_add, ], by simp -implicitDefEqProofs [-Int.natCast_ediv, -Int.natCast_emod, -Int.natCast_mul, -Int.natCast_add, ], by simp -implicitDefEqProofs [-Int.natCast_ediv, -Int.natCast_emod, -Int.natCast_mul, -Int.natCast_add, ], .inr (by simp -implicitDefEqProofs [-Int.natCast_ediv, -Int.natCast_emod, -Int.natCast_mul, -Int.natCast_add, ]), .inr (by simp -implicitDefEqProofs [-Int.natCast_ediv, -Int.natCast_emod, -Int.natCast_mul, -Int.natCast_add, nv, bof_zero]), by simp -implicitDefEqProofs [-Int.natCast_ediv, -Int.natCast_emod, -Int.natCast_mul, -Int.natCast_add, ], Nat.le_refl _, by simp, by simp [nv]⟩ ?_
  rintro k s ⟨q, h0, h1, h8, h6, h7, hG, hk, hq, hn⟩
  cases k with
  | zero =>
    rw [List.drop_zero] at h7 hn
    have ht := fun d G => trim_ev (TB := TB) q (by omega) d G
    rw [hn] at ht
    simp -implicitDefEqProofs [-Int.natCast_ediv, -Int.natCast_emod, -Int.natCast_mul, -Int.natCast_add, h0, h1, h8, hG]
    refine callp (ht _ _) ?_ (hw := by simp [h6.wk])
    rcases h7 with h7 | h7 <;> simp -implicitDefEqProofs [-Int.natCast_ediv, -Int.natCast_emod, -Int.natCast_mul, -Int.natCast_add, Try.results43, h7, hG]
  | succ k =>
    have e1 : (((k + 1 : Nat) : Int) - 1) = (k : Int) := by omega
    rw [e1] at h8
    have w2 : IntKind.i64.wrap ((k : Int) - 1) = (k : Int) - 1 := by rw [wi64]; omega
    have i1 := bit_at a k (by omega)
    have hA : nv (a.drop k) = (bitAt a k).toNat + 2 * nv (a.drop (k + 1)) := nv_drop a k (by omega)
    have hu := Bool.toNat_le (bitAt a k)
    obtain ⟨d1, d2⟩ := div_step hA hu hm
    have hR := Nat.mod_lt (nv (a.drop (k + 1))) hm
    have hlen := Nat.le_trans (length_bof_le (Nat.lt_trans hR (lt_of_length (Nat.le_refl _)))) hb
    have ht := fun d G => trim_ev (TB := TB) ([bitAt a k] ++ bof (nv (a.drop (k + 1)) % m)) (by simp; omega) d G
    have e2 : nv ([bitAt a k] ++ bof (nv (a.drop (k + 1)) % m)) = (bitAt a k).toNat + 2 * (nv (a.drop (k + 1)) % m) := by simp only [List.singleton_append, nv, nv_bof]
    have hl2 := bof_len_nv ([bitAt a k] ++ bof (nv (a.drop (k + 1)) % m))
    rw [e2] at ht hl2
    have hl3 : (bof ((bitAt a k).toNat + 2 * (nv (a.drop (k + 1)) % m))).length ≤ 10001 := by simp at hl2 ⊢; omega
    have hls := fun d G => less_ev (TB := TB) ((bitAt a k).toNat + 2 * (nv (a.drop (k + 1)) % m)) m (by omega) d G
    have hlx : (bof (nv (a.drop (k + 1)) % m)).length ≤ 10000 := hlen
    clear hA hu hl2 e2 hlen hR
    generalize hx : bof (nv (a.drop (k + 1)) % m) = x at *
    generalize hv : (bitAt a k).toNat + 2 * (nv (a.drop (k + 1)) % m) = v at *
    simp -implicitDefEqProofs [-Int.natCast_ediv, -Int.natCast_emod, -Int.natCast_mul, -Int.natCast_add, h0, h1, h8, i1, -List.getElem?_map]
    refine append_pure (n := 1) (es := [eB (bitAt a k)]) (xs := x.map eB) (by simp; exact ⟨rfl, rfl⟩) (src_pl (by simp) h7) rfl (by simp [eB]) (by simp) (by simp; omega) ?_
    simp -implicitDefEqProofs [-Int.natCast_ediv, -Int.natCast_emod, -Int.natCast_mul, -Int.natCast_add, ]
    refine callp (ht _ _) ?_ (hf := by simp [hG])
    simp -implicitDefEqProofs [-Int.natCast_ediv, -Int.natCast_emod, -Int.natCast_mul, -Int.natCast_add, h1]
    refine callp (hls _ _) ?_ (hf := by simp [hG])
    by_cases hlt : v < m
    · obtain ⟨q1, q2⟩ := d1 hlt
      simp -implicitDefEqProofs [-Int.natCast_ediv, -Int.natCast_emod, -Int.natCast_mul, -Int.natCast_add, h0, h1, h8, hG, hlt]
      refine append_pure (n := 1) (es := [eB false]) (xs := q.map eB) (by simp; exact ⟨rfl, rfl⟩) (src_pl (by simp) h6) rfl (by simp [eB]) (by simp) (by simp; omega) ?_
      simp -implicitDefEqProofs [-Int.natCast_ediv, -Int.natCast_emod, -Int.natCast_mul, -Int.natCast_add, h0, h1, h8, hG, w2]
      refine ⟨k, Nat.lt_succ_self k, rfl, [false] ++ q, .inl (by simp), .inl (by rw [q2]), by omega, by simp; omega, by simp [nv, hn, q1]⟩
    · obtain ⟨q1, q2⟩ := d2 hlt
      have hs := fun d G => sub_ev (TB := TB) (bof v) (bof m) (by omega) (by rw [nv_bof, nv_bof]; omega) d G
      rw [nv_bof, nv_bof] at hs
      simp -implicitDefEqProofs [-Int.natCast_ediv, -Int.natCast_emod, -Int.natCast_mul, -Int.natCast_add, h0, h1, h8, hG, hlt]
      refine callp (hs _ _) ?_ (hf := by simp [hG])
      simp -implicitDefEqProofs [-Int.natCast_ediv, -Int.natCast_emod, -Int.natCast_mul, -Int.natCast_add, h0, h1, h8, hG, hlt]
      refine append_pure (n := 1) (es := [eB true]) (xs := q.map eB) (by simp; exact ⟨rfl, rfl⟩) (src_pl (by simp) h6) rfl (by simp [eB]) (by simp) (by simp; omega) ?_
      simp -implicitDefEqProofs [-Int.natCast_ediv, -Int.natCast_emod, -Int.natCast_mul, -Int.natCast_add, h0, h1, h8, hG, w2]
      refine ⟨k, Nat.lt_succ_self k, rfl, [true] ++ q, .inl (by simp), .inl (by rw [q2]), by omega, by simp; omega, by simp [nv, hn, q1]; omega⟩
end Go.E.Ref
end
section
set_option linter.all false
set_option maxRecDepth 100000
namespace Go.E
open Go Go.Proofs Go.Eng
open BallQ (In64 Right q out fits put)
variable {TB : Nat → Option Obj}
def bN (b : Bool) : GV := .p (.bool b)
theorem size_ev (a : Int) (ha : In64 a) (d : Nat) (G : Heap) : Tel Try.prog TB d 80 [.p (.int .i64 a)] G (.p (.int .u64 ((a.natAbs : Nat) : Int))) G := by
  obtain ⟨h0, h1⟩ := ha
  refine Tel.intro mix Try.func80 rfl (Nat.le_of_ble_eq_true rfl) {} (by kernel_rfl) (by kernel_rfl) ?_
  by_cases h : a < 0
  · simp -implicitDefEqProofs [Try.results80, h]
    rw [wu64, wu64]; omega
  · simp -implicitDefEqProofs [Try.results80, h]
    rw [wu64]; omega
theorem common_ev (a b : Nat) (d : Nat) (G : Heap) : Tel Try.prog TB d 79 [.p (.int .u64 (a:Int)), .p (.int .u64 (b:Int))] G (.p (.int .u64 ((a.gcd b : Nat) : Int))) G := by
  refine Tel.intro mix Try.func79 rfl (Nat.le_of_ble_eq_true rfl) {} (by kernel_rfl) (by kernel_rfl) ?_
  simp -implicitDefEqProofs [Try.results79]
  refine gwp_loop (fun k s => ∃ x y : Nat, s.F 0 = .p (.int .u64 (x : Int)) ∧ s.F 1 = .p (.int .u64 (y : Int)) ∧ y = k ∧ x.gcd y = a.gcd b ∧ s.G = cut d G) ⟨a, b, by simp, by simp, rfl, rfl, rfl⟩ ?_
  rintro k s ⟨x, y, h0, h1, rfl, hg, hG⟩
  by_cases h : y = 0
  · subst h
    simp -implicitDefEqProofs [h0, h1, hG]
    simp at hg
    omega
  · have hy : ((y : Nat) : Int) ≠ 0 := by omega
    have e : Int.tmod (x : Int) (y : Int) = ((x % y : Nat) : Int) := by rw [Int.tmod_eq_emod_of_nonneg (by omega)]; omega
    simp -implicitDefEqProofs [h0, h1, hG, h, e]
    exact ⟨x % y, Nat.mod_lt _ (by omega), y, rfl, x % y, rfl, rfl, by rw [← hg, Nat.gcd_comm y, ← Nat.gcd_rec, Nat.gcd_comm]⟩
theorem mul64_ev (a b : Nat) (ha : a < 18446744073709551616) (hb : b < 18446744073709551616) (d : Nat) (G : Heap) : Tel Try.prog TB d 105 [.p (.int .u64 (a:Int)), .p (.int .u64 (b:Int))] G
    (.tup [.p (.int .u64 ((a * b / 18446744073709551616 : Nat) : Int)), .p (.int .u64 ((a * b % 18446744073709551616 : Nat) : Int))]) G := by
  have hs := mul_split (a / 4294967296) (a % 4294967296) (b / 4294967296) (b % 4294967296) 4294967296 (by omega)
  rw [Nat.div_add_mod', Nat.div_add_mod'] at hs
  have sh : ∀ x : Nat, shrI .u64 (x : Int) 32 = ((x / 4294967296 : Nat) : Int) := fun x => shr_eq x 32 (by omega)
  have elo : IntKind.u64.wrap ((a : Int) * (b : Int)) = ((a * b % 18446744073709551616 : Nat) : Int) := by rw [wu64]; omega
  have a1 : a / 4294967296 < 4294967296 := by omega
  have a0 : a % 4294967296 < 4294967296 := by omega
  have b1 : b / 4294967296 < 4294967296 := by omega
  have b0 : b % 4294967296 < 4294967296 := by omega
  rw [hs]
  refine Tel.intro mix Try.func105 rfl (Nat.le_of_ble_eq_true rfl) {} (by kernel_rfl) (by kernel_rfl) ?_
  simp -implicitDefEqProofs [Try.results105, sh, -Int.natCast_ediv, -Int.natCast_emod, -Int.natCast_mul, -Int.natCast_add, and32 a ha, and32 b hb, elo]
  clear hs elo ha hb
  have sh : ∀ x : Nat, shrI .u64 (x : Int) 32 = ((x / 4294967296 : Nat) : Int) := fun x => shr_eq x 32 (by omega)
  generalize a / 4294967296 = x1 at *
  generalize a % 4294967296 = x0 at *
  generalize b / 4294967296 = y1 at *
  generalize b % 4294967296 = y0 at *
  have m1 := mul_lt a1 b1
  have m2 := mul_lt a1 b0
  have m3 := mul_lt a0 b0
  have m4 := mul_lt a0 b1
  have w1 : IntKind.u64.wrap ((x0 : Int) * (y0 : Int)) = ((x0 * y0 : Nat) : Int) := by rw [wu64, ← Int.natCast_mul]; omega
  have w2 : IntKind.u64.wrap ((x1 : Int) * (y0 : Int)) = ((x1 * y0 : Nat) : Int) := by rw [wu64, ← Int.natCast_mul]; omega
  have w3 : IntKind.u64.wrap ((x0 : Int) * (y1 : Int)) = ((x0 * y1 : Nat) : Int) := by rw [wu64, ← Int.natCast_mul]; omega
  have w4 : IntKind.u64.wrap ((x1 : Int) * (y1 : Int)) = ((x1 * y1 : Nat) : Int) := by rw [wu64, ← Int.natCast_mul]; omega
  rw [w1, w2, w3, w4, sh]
  generalize x0 * y0 = p00 at *
  generalize x1 * y0 = p10 at *
  generalize x0 * y1 = p01 at *
  generalize x1 * y1 = p11 at *
  have e1 : IntKind.u64.wrap ((p10 : Int) + ((p00 / 4294967296 : Nat) : Int)) = ((p10 + p00 / 4294967296 : Nat) : Int) := by rw [wu64]; omega
  have et : p10 + p00 / 4294967296 < 18446744073709551616 := by omega
  rw [e1, and32 _ et, sh]
  have e2 : IntKind.u64.wrap (((p10 + p00 / 4294967296) % 4294967296 : Nat) + (p01 : Int)) = (((p10 + p00 / 4294967296) % 4294967296 + p01 : Nat) : Int) := by rw [wu64]; omega
  rw [e2, sh]
  have e3 : IntKind.u64.wrap ((p11 : Int) + (((p10 + p00 / 4294967296) / 4294967296 : Nat) : Int)) = ((p11 + (p10 + p00 / 4294967296) / 4294967296 : Nat) : Int) := by rw [wu64]; omega
  rw [e3, wu64]
  omega
def tabOK (s : ByteArray) : Bool := (List.range 256).all fun i => match s[i]? with
  | some v => i == 0 || v.toNat == Nat.log2 i + 1
  | none => false
theorem tab_idx {P : Program} {t : TypeId} {s : ByteArray} {k : IntKind} {i : Nat} {K : GV → Prop} (hs : isStr P t = true) (ht : tabOK s = true) (hi : i < 256) (h0 : i ≠ 0) (h : K (.p (.int .u8 ((Nat.log2 i + 1 : Nat) : Int)))) :
    gIndex P t (.p (.str s)) (.p (.int k (i : Int))) K := by
  unfold tabOK at ht
  rw [List.all_eq_true] at ht
  have h1 := ht i (List.mem_range.2 hi)
  unfold gIndex
  dsimp only
  refine ⟨hs, by omega, ?_⟩
  rw [Int.toNat_natCast]
  split at h1
  · rename_i u hu
    rw [hu]
    dsimp only
    have : u.toNat = Nat.log2 i + 1 := by
      rcases Bool.or_eq_true _ _ ▸ h1 with h2 | h2
      · exact absurd (beq_iff_eq.1 h2) h0
      · exact beq_iff_eq.1 h2
    rw [this]
    exact h
  · cases h1
theorem tab_val {i : Nat} (hi : i < 256) (h0 : i ≠ 0) : Nat.log2 i + 1 ≤ 8 ∧ i < 2 ^ (Nat.log2 i + 1) ∧ 2 ^ (Nat.log2 i + 1) ≤ 2 * i := by
  refine ⟨?_, Nat.lt_log2_self, ?_⟩
  · have := (Nat.log2_lt h0).2 (show i < 2 ^ 8 by omega)
    omega
  · have := Nat.log2_self_le h0
    rw [Nat.pow_succ]; omega
theorem pow_parts {x k v : Nat} (h1 : x / 2 ^ k < 2 ^ v) (h2 : 2 ^ v ≤ 2 * (x / 2 ^ k)) : x < 2 ^ (k + v) ∧ 2 ^ (k + v) ≤ 2 * x := by
  have hp : 0 < 2 ^ k := Nat.pow_pos (by decide)
  rw [Nat.pow_add]
  constructor
  · rw [Nat.div_lt_iff_lt_mul hp] at h1
    rw [Nat.mul_comm]; exact h1
  · have h3 := Nat.mul_le_mul_left (2 ^ k) h2
    have h4 := Nat.div_mul_le_self x (2 ^ k)
    have h5 : 2 ^ k * (2 * (x / 2 ^ k)) = 2 * (x / 2 ^ k * 2 ^ k) := by
      rw [Nat.mul_comm (2 ^ k), Nat.mul_assoc]
    omega
theorem wu8 {x : Nat} (h : x < 256) : IntKind.u8.wrap (x : Int) = (x : Int) := by
  simp [IntKind.wrap, IntKind.signed, IntKind.bits]; omega
theorem len64_ev (x : Nat) (h0 : 0 < x) (hx : x < 18446744073709551616) (d : Nat) (G : Heap) : ∃ n : Nat, Tel Try.prog TB d 119 [.p (.int .u64 (x:Int))] G (.p (.int .i64 (n : Int))) G ∧ n ≤ 64 ∧ x < 2 ^ n ∧ 2 ^ n ≤ 2 * x := by
  have s32 : ∀ x : Nat, shrI .u64 (x : Int) 32 = ((x / 4294967296 : Nat) : Int) := fun x => shr_eq x 32 (by omega)
  have s16 : ∀ x : Nat, shrI .u64 (x : Int) 16 = ((x / 65536 : Nat) : Int) := fun x => shr_eq x 16 (by omega)
  have s8 : ∀ x : Nat, shrI .u64 (x : Int) 8 = ((x / 256 : Nat) : Int) := fun x => shr_eq x 8 (by omega)
  by_cases h1 : 4294967296 ≤ x
  · have q1 : (4294967296 ≤ ((x : Nat) : Int)) = True := by simp only [eq_iff_iff, iff_true]; omega
    by_cases h2 : 65536 ≤ x / 4294967296
    · have q2 : (65536 ≤ ((x / 4294967296 : Nat) : Int)) = True := by simp only [eq_iff_iff, iff_true]; omega
      by_cases h3 : 256 ≤ x / 4294967296 / 65536
      · have q3 : (256 ≤ ((x / 4294967296 / 65536 : Nat) : Int)) = True := by simp only [eq_iff_iff, iff_true]; omega
        have hlt : x / 4294967296 / 65536 / 256 < 256 := by omega
        have h0' : x / 4294967296 / 65536 / 256 ≠ 0 := by omega
        obtain ⟨v8, vl, vg⟩ := tab_val hlt h0'
        have ed : x / 4294967296 / 65536 / 256 = x / 2 ^ 56 := by omega
        have pp := pow_parts (x := x) (k := 56) (v := Nat.log2 (x / 4294967296 / 65536 / 256) + 1) (by rw [← ed]; exact vl) (by rw [← ed]; exact vg)
        refine ⟨56 + (Nat.log2 (x / 4294967296 / 65536 / 256) + 1), ?_, by omega, pp.1, pp.2⟩
        clear pp ed vl vg
        have ew : IntKind.u8.wrap ((x / 4294967296 / 65536 / 256 : Nat) : Int) = ((x / 4294967296 / 65536 / 256 : Nat) : Int) := wu8 hlt
        refine Tel.intro mix Try.func119 rfl (Nat.le_of_ble_eq_true rfl) {} (by kernel_rfl) (by kernel_rfl) ?_
        simp -implicitDefEqProofs [Try.results119, -gIndex, -Int.natCast_ediv, s32, s16, s8, q1, q2, q3, ew]
        refine tab_idx (by simp) (by kernel_rfl) hlt h0' ?_
        simp -implicitDefEqProofs [Try.results119]
        generalize Nat.log2 (x / 4294967296 / 65536 / 256) = v at *
        simp only [wi64]
        omega
      · have q3 : (256 ≤ ((x / 4294967296 / 65536 : Nat) : Int)) = False := by simp only [eq_iff_iff, iff_false]; omega
        have hlt : x / 4294967296 / 65536 < 256 := by omega
        have h0' : x / 4294967296 / 65536 ≠ 0 := by omega
        obtain ⟨v8, vl, vg⟩ := tab_val hlt h0'
        have ed : x / 4294967296 / 65536 = x / 2 ^ 48 := by omega
        have pp := pow_parts (x := x) (k := 48) (v := Nat.log2 (x / 4294967296 / 65536) + 1) (by rw [← ed]; exact vl) (by rw [← ed]; exact vg)
        refine ⟨48 + (Nat.log2 (x / 4294967296 / 65536) + 1), ?_, by omega, pp.1, pp.2⟩
        clear pp ed vl vg
        have ew : IntKind.u8.wrap ((x / 4294967296 / 65536 : Nat) : Int) = ((x / 4294967296 / 65536 : Nat) : Int) := wu8 hlt
        refine Tel.intro mix Try.func119 rfl (Nat.le_of_ble_eq_true rfl) {} (by kernel_rfl) (by kernel_rfl) ?_
        simp -implicitDefEqProofs [Try.results119, -gIndex, -Int.natCast_ediv, s32, s16, s8, q1, q2, q3, ew]
        refine tab_idx (by simp) (by kernel_rfl) hlt h0' ?_
        simp -implicitDefEqProofs [Try.results119]
        generalize Nat.log2 (x / 4294967296 / 65536) = v at *
        simp only [wi64]
        omega
    · have q2 : (65536 ≤ ((x / 4294967296 : Nat) : Int)) = False := by simp only [eq_iff_iff, iff_false]; omega
      by_cases h3 : 256 ≤ x / 4294967296
      · have q3 : (256 ≤ ((x / 4294967296 : Nat) : Int)) = True := by simp only [eq_iff_iff, iff_true]; omega
        have hlt : x / 4294967296 / 256 < 256 := by omega
        have h0' : x / 4294967296 / 256 ≠ 0 := by omega
        obtain ⟨v8, vl, vg⟩ := tab_val hlt h0'
        have ed : x / 4294967296 / 256 = x / 2 ^ 40 := by omega
        have pp := pow_parts (x := x) (k := 40) (v := Nat.log2 (x / 4294967296 / 256) + 1) (by rw [← ed]; exact vl) (by rw [← ed]; exact vg)
        refine ⟨40 + (Nat.log2 (x / 4294967296 / 256) + 1), ?_, by omega, pp.1, pp.2⟩
        clear pp ed vl vg
        have ew : IntKind.u8.wrap ((x / 4294967296 / 256 : Nat) : Int) = ((x / 4294967296 / 256 : Nat) : Int) := wu8 hlt
        refine Tel.intro mix Try.func119 rfl (Nat.le_of_ble_eq_true rfl) {} (by kernel_rfl) (by kernel_rfl) ?_
        simp -implicitDefEqProofs [Try.results119, -gIndex, -Int.natCast_ediv, s32, s16, s8, q1, q2, q3, ew]
        refine tab_idx (by simp) (by kernel_rfl) hlt h0' ?_
        simp -implicitDefEqProofs [Try.results119]
        generalize Nat.log2 (x / 4294967296 / 256) = v at *
        simp only [wi64]
        omega
      · have q3 : (256 ≤ ((x / 4294967296 : Nat) : Int)) = False := by simp only [eq_iff_iff, iff_false]; omega
        have hlt : x / 4294967296 < 256 := by omega
        have h0' : x / 4294967296 ≠ 0 := by omega
        obtain ⟨v8, vl, vg⟩ := tab_val hlt h0'
        have ed : x / 4294967296 = x / 2 ^ 32 := by omega
        have pp := pow_parts (x := x) (k := 32) (v := Nat.log2 (x / 4294967296) + 1) (by rw [← ed]; exact vl) (by rw [← ed]; exact vg)
        refine ⟨32 + (Nat.log2 (x / 4294967296) + 1), ?_, by omega, pp.1, pp.2⟩
        clear pp ed vl vg
        have ew : IntKind.u8.wrap ((x / 4294967296 : Nat) : Int) = ((x / 4294967296 : Nat) : Int) := wu8 hlt
        refine Tel.intro mix Try.func119 rfl (Nat.le_of_ble_eq_true rfl) {} (by kernel_rfl) (by kernel_rfl) ?_
        simp -implicitDefEqProofs [Try.results119, -gIndex, -Int.natCast_ediv, s32, s16, s8, q1, q2, q3, ew]
        refine tab_idx (by simp) (by kernel_rfl) hlt h0' ?_
        simp -implicitDefEqProofs [Try.results119]
        generalize Nat.log2 (x / 4294967296) = v at *
        simp only [wi64]
        omega
  · have q1 : (4294967296 ≤ ((x : Nat) : Int)) = False := by simp only [eq_iff_iff, iff_false]; omega
    by_cases h2 : 65536 ≤ x
    · have q2 : (65536 ≤ ((x : Nat) : Int)) = True := by simp only [eq_iff_iff, iff_true]; omega
      by_cases h3 : 256 ≤ x / 65536
      · have q3 : (256 ≤ ((x / 65536 : Nat) : Int)) = True := by simp only [eq_iff_iff, iff_true]; omega
        have hlt : x / 65536 / 256 < 256 := by omega
        have h0' : x / 65536 / 256 ≠ 0 := by omega
        obtain ⟨v8, vl, vg⟩ := tab_val hlt h0'
        have ed : x / 65536 / 256 = x / 2 ^ 24 := by omega
        have pp := pow_parts (x := x) (k := 24) (v := Nat.log2 (x / 65536 / 256) + 1) (by rw [← ed]; exact vl) (by rw [← ed]; exact vg)
        refine ⟨24 + (Nat.log2 (x / 65536 / 256) + 1), ?_, by omega, pp.1, pp.2⟩
        clear pp ed vl vg
        have ew : IntKind.u8.wrap ((x / 65536 / 256 : Nat) : Int) = ((x / 65536 / 256 : Nat) : Int) := wu8 hlt
        refine Tel.intro mix Try.func119 rfl (Nat.le_of_ble_eq_true rfl) {} (by kernel_rfl) (by kernel_rfl) ?_
        simp -implicitDefEqProofs [Try.results119, -gIndex, -Int.natCast_ediv, s32, s16, s8, q1, q2, q3, ew]
        refine tab_idx (by simp) (by kernel_rfl) hlt h0' ?_
        simp -implicitDefEqProofs [Try.results119]
        generalize Nat.log2 (x / 65536 / 256) = v at *
        simp only [wi64]
        omega
      · have q3 : (256 ≤ ((x / 65536 : Nat) : Int)) = False := by simp only [eq_iff_iff, iff_false]; omega
        have hlt : x / 65536 < 256 := by omega
        have h0' : x / 65536 ≠ 0 := by omega
        obtain ⟨v8, vl, vg⟩ := tab_val hlt h0'
        have ed : x / 65536 = x / 2 ^ 16 := by omega
        have pp := pow_parts (x := x) (k := 16) (v := Nat.log2 (x / 65536) + 1) (by rw [← ed]; exact vl) (by rw [← ed]; exact vg)
        refine ⟨16 + (Nat.log2 (x / 65536) + 1), ?_, by omega, pp.1, pp.2⟩
        clear pp ed vl vg
        have ew : IntKind.u8.wrap ((x / 65536 : Nat) : Int) = ((x / 65536 : Nat) : Int) := wu8 hlt
        refine Tel.intro mix Try.func119 rfl (Nat.le_of_ble_eq_true rfl) {} (by kernel_rfl) (by kernel_rfl) ?_
        simp -implicitDefEqProofs [Try.results119, -gIndex, -Int.natCast_ediv, s32, s16, s8, q1, q2, q3, ew]
        refine tab_idx (by simp) (by kernel_rfl) hlt h0' ?_
        simp -implicitDefEqProofs [Try.results119]
        generalize Nat.log2 (x / 65536) = v at *
        simp only [wi64]
        omega
    · have q2 : (65536 ≤ ((x : Nat) : Int)) = False := by simp only [eq_iff_iff, iff_false]; omega
      by_cases h3 : 256 ≤ x
      · have q3 : (256 ≤ ((x : Nat) : Int)) = True := by simp only [eq_iff_iff, iff_true]; omega
        have hlt : x / 256 < 256 := by omega
        have h0' : x / 256 ≠ 0 := by omega
        obtain ⟨v8, vl, vg⟩ := tab_val hlt h0'
        have ed : x / 256 = x / 2 ^ 8 := by omega
        have pp := pow_parts (x := x) (k := 8) (v := Nat.log2 (x / 256) + 1) (by rw [← ed]; exact vl) (by rw [← ed]; exact vg)
        refine ⟨8 + (Nat.log2 (x / 256) + 1), ?_, by omega, pp.1, pp.2⟩
        clear pp ed vl vg
        have ew : IntKind.u8.wrap ((x / 256 : Nat) : Int) = ((x / 256 : Nat) : Int) := wu8 hlt
        refine Tel.intro mix Try.func119 rfl (Nat.le_of_ble_eq_true rfl) {} (by kernel_rfl) (by kernel_rfl) ?_
        simp -implicitDefEqProofs [Try.results119, -gIndex, -Int.natCast_ediv, s32, s16, s8, q1, q2, q3, ew]
        refine tab_idx (by simp) (by kernel_rfl) hlt h0' ?_
        simp -implicitDefEqProofs [Try.results119]
        generalize Nat.log2 (x / 256) = v at *
        simp only [wi64]
        omega
      · have q3 : (256 ≤ ((x : Nat) : Int)) = False := by simp only [eq_iff_iff, iff_false]; omega
        have hlt : x < 256 := by omega
        have h0' : x ≠ 0 := by omega
        obtain ⟨v8, vl, vg⟩ := tab_val hlt h0'
        have ed : x = x / 2 ^ 0 := by omega
        have pp := pow_parts (x := x) (k := 0) (v := Nat.log2 (x) + 1) (by rw [← ed]; exact vl) (by rw [← ed]; exact vg)
        refine ⟨0 + (Nat.log2 (x) + 1), ?_, by omega, pp.1, pp.2⟩
        clear pp ed vl vg
        have ew : IntKind.u8.wrap ((x : Nat) : Int) = ((x : Nat) : Int) := wu8 hlt
        refine Tel.intro mix Try.func119 rfl (Nat.le_of_ble_eq_true rfl) {} (by kernel_rfl) (by kernel_rfl) ?_
        simp -implicitDefEqProofs [Try.results119, -gIndex, -Int.natCast_ediv, s32, s16, s8, q1, q2, q3, ew]
        refine tab_idx (by simp) (by kernel_rfl) hlt h0' ?_
        simp -implicitDefEqProofs [Try.results119]
        generalize Nat.log2 (x) = v at *
        simp only [wi64]
        omega
theorem zeros_ev (x : Nat) (h0 : 0 < x) (hx : x < 18446744073709551616) (d : Nat) (G : Heap) : ∃ s : Nat, Tel Try.prog TB d 111 [.p (.int .u64 (x:Int))] G (.p (.int .i64 (s : Int))) G ∧
    s ≤ 63 ∧ x * 2 ^ s < 18446744073709551616 ∧ 9223372036854775808 ≤ x * 2 ^ s := by
  obtain ⟨n, hn, n0, n1, n2⟩ := len64_ev (TB := TB) x h0 hx (d + 1) empty
  have hn0 : n ≠ 0 := by intro e; subst e; simp at n1; omega
  refine ⟨64 - n, ?_, by omega, ?_, ?_⟩
  · refine Tel.intro mix Try.func111 rfl (Nat.le_of_ble_eq_true rfl) {} (by kernel_rfl) (by kernel_rfl) ?_
    simp -implicitDefEqProofs [Try.results111]
    refine callp hn ?_
    simp -implicitDefEqProofs [Try.results111, wi64]
    omega
  · have : 2 ^ n * 2 ^ (64 - n) = 18446744073709551616 := by rw [← Nat.pow_add, show n + (64 - n) = 64 by omega]
    have h := Nat.mul_lt_mul_of_pos_right n1 (Nat.pow_pos (n := 64 - n) (show 0 < 2 by omega))
    omega
  · have : 2 ^ n * 2 ^ (64 - n) = 18446744073709551616 := by rw [← Nat.pow_add, show n + (64 - n) = 64 by omega]
    have h := Nat.mul_le_mul_right (2 ^ (64 - n)) n2
    rw [Nat.mul_assoc] at h
    omega
theorem add64_ev (x y b : Nat) (hb : b ≤ 1) (d : Nat) (G : Heap) : Tel Try.prog TB d 109 [.p (.int .u64 (x : Int)), .p (.int .u64 (y : Int)), .p (.int .u64 (b : Int))] G
    (.tup [.p (.int .u64 (((x + y + b) % 18446744073709551616 : Nat) : Int)), .p (.int .u64 (((x + y + b) / 18446744073709551616 : Nat) : Int))]) G :=
  tel_carry (en := addEntry) Try.func109 (by kernel_rfl) (by kernel_rfl) (by kernel_rfl) (by kernel_rfl) (run_add x y b hb) d G
theorem sub64_ev (x y b : Nat) (hb : b ≤ 1) (d : Nat) (G : Heap) : Tel Try.prog TB d 110 [.p (.int .u64 (x : Int)), .p (.int .u64 (y : Int)), .p (.int .u64 (b : Int))] G
    (.tup [.p (.int .u64 (((x + 18446744073709551616 - y - b) % 18446744073709551616 : Nat) : Int)), .p (.int .u64 ((if x < y + b then 1 else 0 : Nat) : Int))]) G :=
  tel_carry (en := subEntry) Try.func110 (by kernel_rfl) (by kernel_rfl) (by kernel_rfl) (by kernel_rfl) (run_sub x y b hb) d G
theorem put_ev (n k : Nat) (m : Bool) (hn : n < 18446744073709551616) (hk : k < 18446744073709551616) (d : Nat) (G : Heap) : Tel Try.prog TB d 82 [.p (.int .u64 (n : Int)), .p (.int .u64 (k : Int)), .p (.bool m)] G
    (.tup [.agg [.p (.int .i64 (put n k m).1), .p (.int .i64 (put n k m).2.1)], .p (.int .i64 (put n k m).2.2)]) G := by
  unfold BallQ.put
  refine Tel.intro mix Try.func82 rfl (Nat.le_of_ble_eq_true rfl) {} (by kernel_rfl) (by kernel_rfl) ?_
  by_cases h1 : 9223372036854775808 ≤ n
  · have e1 : ((9223372036854775807 : Int) < (n : Int)) = True := by simp only [eq_iff_iff, iff_true]; omega
    simp -implicitDefEqProofs [Try.results82, e1, show ¬ (n < 9223372036854775808) by omega]
  · have e1 : ((9223372036854775807 : Int) < (n : Int)) = False := by simp only [eq_iff_iff, iff_false]; omega
    by_cases h2 : 9223372036854775808 ≤ k
    · have e2 : ((9223372036854775807 : Int) < (k : Int)) = True := by simp only [eq_iff_iff, iff_true]; omega
      simp -implicitDefEqProofs [Try.results82, e1, e2, show ¬ (k < 9223372036854775808) by omega]
    · have e2 : ((9223372036854775807 : Int) < (k : Int)) = False := by simp only [eq_iff_iff, iff_false]; omega
      have w1 : IntKind.i64.wrap (n : Int) = n := by rw [wi64]; omega
      have w2 : IntKind.i64.wrap (k : Int) = k := by rw [wi64]; omega
      have w3 : IntKind.i64.wrap (-(n : Int)) = -(n : Int) := by rw [wi64]; omega
      have g1 : n < 9223372036854775808 := by omega
      have g2 : k < 9223372036854775808 := by omega
      cases m
      · simp -implicitDefEqProofs [Try.results82, e1, e2, w1, w2, w3, g1, g2]
      · simp -implicitDefEqProofs [Try.results82, e1, e2, w1, w2, w3, g1, g2]
theorem product_ev (a b : Nat) (ha : a < 18446744073709551616) (hb : b < 18446744073709551616) (d : Nat) (G : Heap) : Tel Try.prog TB d 81 [.p (.int .u64 (a : Int)), .p (.int .u64 (b : Int))] G
    (.tup [.p (.int .u64 ((a * b % 18446744073709551616 : Nat) : Int)), .p (.bool (decide (a * b < 18446744073709551616)))]) G := by
  have e : decide ((((a * b / 18446744073709551616 : Nat)) : Int) = 0) = decide (a * b < 18446744073709551616) := by rw [decide_eq_decide]; omega
  refine Tel.intro mix Try.func81 rfl (Nat.le_of_ble_eq_true rfl) {} (by kernel_rfl) (by kernel_rfl) ?_
  simp -implicitDefEqProofs [-Int.natCast_ediv, -Int.natCast_emod, -Int.natCast_mul, -Int.natCast_add, Try.results81]
  refine callp (mul64_ev a b ha hb _ _) ?_
  simp -implicitDefEqProofs [-Int.natCast_ediv, -Int.natCast_emod, -Int.natCast_mul, -Int.natCast_add, Try.results81, e]
theorem right_ev (n k : Int) (hn : In64 n) (hk : In64 k) (d : Nat) (G : Heap) : Tel Try.prog TB d 48 [.agg [.p (.int .i64 n), .p (.int .i64 k)]] G (.p (.bool (decide (Right n k)))) G := by
  refine Tel.intro mix Try.func48 rfl (Nat.le_of_ble_eq_true rfl) {} (by kernel_rfl) (by kernel_rfl) ?_
  by_cases h0 : 0 < k
  · by_cases h1 : n = -9223372036854775808
    · have : ¬ Right n k := fun h => h.2.1 h1
      subst h1
      simp -implicitDefEqProofs [Try.results48, h0, this]
    · have e : decide (((n.natAbs.gcd k.natAbs : Nat) : Int) = 1) = decide (Right n k) := by
        rw [decide_eq_decide]
        exact ⟨fun h => ⟨h0, h1, by omega⟩, fun h => by have := h.2.2; omega⟩
      simp -implicitDefEqProofs [Try.results48, h0, h1]
      refine callp (size_ev n hn _ _) ?_
      simp -implicitDefEqProofs [Try.results48]
      refine callp (size_ev k hk _ _) ?_
      simp -implicitDefEqProofs [Try.results48]
      refine callp (common_ev _ _ _ _) ?_
      simp -implicitDefEqProofs [Try.results48, e]
  · have : ¬ Right n k := fun h => h0 h.1
    simp -implicitDefEqProofs [Try.results48, h0, this]
end Go.E
end
section
set_option linter.all false
set_option maxRecDepth 100000
namespace Go.E
open Go Go.Proofs Go.Eng
open BallQ (In64 Right q out fits put)
variable {TB : Nat → Option Obj}
theorem test_iff {q y0 rh c : Nat} (hq : q < 4294967296) (hy0 : y0 < 4294967296) (hr : rh < 4294967296) (hc : c < 4294967296) :
    (IntKind.u64.wrap (IntKind.u64.wrap (4294967296 * (rh : Int)) + (c : Int)) < IntKind.u64.wrap ((q : Int) * (y0 : Int))) = (4294967296 * rh + c < q * y0) := by
  have := test_eq hq hy0 hr hc
  rw [decide_eq_decide] at this
  exact propext this
structure DV (σ : St) (G : Heap) (Y s u c1 c0 : Nat) : Prop where
  f2 : σ.F 2 = .p (.int .u64 (Y : Int))
  f8 : σ.F 8 = .p (.int .u64 (s : Int))
  f9 : σ.F 9 = .p (.int .u64 ((Y / 4294967296 : Nat) : Int))
  f10 : σ.F 10 = .p (.int .u64 ((Y % 4294967296 : Nat) : Int))
  f11 : σ.F 11 = .p (.int .u64 (u : Int))
  f13 : σ.F 13 = .p (.int .u64 (c1 : Int))
  f14 : σ.F 14 = .p (.int .u64 (c0 : Int))
  g : σ.G = G
theorem DV_iff {σ : St} {G : Heap} {Y s u c1 c0 : Nat} : DV σ G Y s u c1 c0 ↔ σ.F 2 = .p (.int .u64 (Y : Int)) ∧ σ.F 8 = .p (.int .u64 (s : Int)) ∧ σ.F 9 = .p (.int .u64 ((Y / 4294967296 : Nat) : Int)) ∧ σ.F 10 = .p (.int .u64 ((Y % 4294967296 : Nat) : Int)) ∧
    σ.F 11 = .p (.int .u64 (u : Int)) ∧ σ.F 13 = .p (.int .u64 (c1 : Int)) ∧ σ.F 14 = .p (.int .u64 (c0 : Int)) ∧ σ.G = G :=
  ⟨fun ⟨a, b, c, d, e, f, g, h⟩ => ⟨a, b, c, d, e, f, g, h⟩, fun ⟨a, b, c, d, e, f, g, h⟩ => ⟨a, b, c, d, e, f, g, h⟩⟩
theorem quo_eq {R y : Nat} (hR : R < 18446744073709551616) : IntKind.u64.wrap ((R : Int) / (y : Int)) = ((R / y : Nat) : Int) := by
  have := (sub_mul_eq (y1 := y) hR).1
  rwa [Int.tdiv_eq_ediv_of_nonneg (by omega)] at this
theorem rem_eq {R y : Nat} (hR : R < 18446744073709551616) : IntKind.u64.wrap ((R : Int) - IntKind.u64.wrap (((R / y : Nat) : Int) * (y : Int))) = ((R % y : Nat) : Int) := (sub_mul_eq (y1 := y) hR).2
theorem ge_iff {q n : Nat} {z : Int} (hz : z = (n : Int)) : (z ≤ (q : Int)) = (n ≤ q) := by subst hz; exact propext (by omega)
theorem lt_two {R Y c : Nat} (h : R < Y) (hc : c < 4294967296) : (R * 4294967296 + c) / Y < 4294967296 := by
  rw [Nat.div_lt_iff_lt_mul (by omega)]; omega
theorem wq_eq {Q v : Nat} (hQ : Q < 4294967296) (hv : v < 4294967296) : IntKind.u64.wrap (IntKind.u64.wrap ((Q : Int) * 4294967296) + (v : Int)) = ((Q * 4294967296 + v : Nat) : Int) := by
  rw [wu64, wu64]; omega
theorem div64_ev (hi lo y : Nat) (h : hi < y) (hy : y < 18446744073709551616) (hl : lo < 18446744073709551616) (d : Nat) (G : Heap) : Tel Try.prog TB d 91 [.p (.int .u64 (hi : Int)), .p (.int .u64 (lo : Int)), .p (.int .u64 (y : Int))] G
    (.tup [.p (.int .u64 (((hi * 18446744073709551616 + lo) / y : Nat) : Int)), .p (.int .u64 (((hi * 18446744073709551616 + lo) % y : Nat) : Int))]) G := by
  have y0 : ¬ (y = 0) := by omega
  have yh : ¬ ((y : Int) ≤ (hi : Int)) := by omega
  have yh' : ¬ (y ≤ hi) := by omega
  by_cases h0 : hi = 0
  · subst h0
    have e1 := (sub_mul_eq (y1 := y) hl).1
    rw [Int.tdiv_eq_ediv_of_nonneg (by omega)] at e1
    have e2 : Int.tmod (lo : Int) (y : Int) = ((lo % y : Nat) : Int) := by rw [Int.tmod_eq_emod_of_nonneg (by omega)]; rfl
    refine Tel.intro mix Try.func91 rfl (Nat.le_of_ble_eq_true rfl) {} (by kernel_rfl) (by kernel_rfl) ?_
    simp -implicitDefEqProofs [-Int.natCast_ediv, -Int.natCast_emod, -Int.natCast_mul, -Int.natCast_add, Try.results91, y0, yh, yh', e1, e2]
  · obtain ⟨s, hz, s63, sN, sL⟩ := zeros_ev (TB := TB) y (by omega) hy (d + 1) empty
    have es : IntKind.u64.wrap (s : Int) = (s : Int) := by rw [wu64]; clear sN sL; omega
    have es2 : IntKind.u64.wrap (64 - (s : Int)) = ((64 - s : Nat) : Int) := by rw [wu64]; clear sN sL; omega
    have s64 : s ≤ 64 := Nat.le_trans s63 (by decide)
    have p1 : 0 < 2 ^ s := Nat.pow_pos (by decide)
    have pp : 2 ^ (64 - s) * 2 ^ s = 18446744073709551616 := by rw [← Nat.pow_add, Nat.sub_add_cancel s64]
    obtain ⟨k1, k2, k3, k4⟩ := shift_parts pp h hl sN
    have eY : shlI .u64 (y : Int) (s : Int) = ((y * 2 ^ s : Nat) : Int) := by rw [shl_eq _ _ s64, Nat.mod_eq_of_lt sN]
    have eH : shlI .u64 (hi : Int) (s : Int) = ((hi * 2 ^ s : Nat) : Int) := by rw [shl_eq _ _ s64, Nat.mod_eq_of_lt k1]
    have eL : shlI .u64 (lo : Int) (s : Int) = ((lo * 2 ^ s % 18446744073709551616 : Nat) : Int) := shl_eq _ _ s64
    have eR : shrI .u64 (lo : Int) ((64 - s : Nat) : Int) = ((lo / 2 ^ (64 - s) : Nat) : Int) := shr_eq _ _ (Nat.sub_le _ _)
    have eO := or_eq k1 k2 s64
    have hLm : lo * 2 ^ s % 18446744073709551616 < 18446744073709551616 := Nat.mod_lt _ (by decide)
    have eq1 : (hi * 18446744073709551616 + lo) / y = (hi * 18446744073709551616 + lo) * 2 ^ s / (y * 2 ^ s) := by rw [Nat.mul_div_mul_right _ _ p1]
    have eq2 : (hi * 18446744073709551616 + lo) % y = (hi * 18446744073709551616 + lo) * 2 ^ s % (y * 2 ^ s) / 2 ^ s := by
      rw [Nat.mul_mod_mul_right, Nat.mul_div_cancel _ p1]
    rw [eq1, eq2, k4]
    clear eq1 eq2 k4 k1 k2 pp p1
    generalize hi * 2 ^ s + lo / 2 ^ (64 - s) = u at *
    generalize hi * 2 ^ s = H at *
    generalize lo / 2 ^ (64 - s) = E at *
    generalize lo * 2 ^ s % 18446744073709551616 = L at *
    generalize y * 2 ^ s = Y at *
    have a1 := and32 _ sN
    have a2 := and32 _ hLm
    have sh : ∀ x : Nat, shrI .u64 (x : Int) 32 = ((x / 4294967296 : Nat) : Int) := fun x => shr_eq x 32 (by omega)
    have n : Norm Y (Y / 4294967296) (Y % 4294967296) := ⟨by omega, sL, sN, by omega⟩
    have hh := n.half
    have hY0 : 0 < Y := by omega
    have td := BallQ.two_digits (U := u * 18446744073709551616 + L) (y := Y) (B := 4294967296) (u := u) (c1 := L / 4294967296) (c0 := L % 4294967296) hY0 (by omega)
    obtain ⟨Q, eQ⟩ : ∃ Q, Q = (u * 4294967296 + L / 4294967296) / Y := ⟨_, rfl⟩
    obtain ⟨R, eM⟩ : ∃ R, R = (u * 4294967296 + L / 4294967296) % Y := ⟨_, rfl⟩
    have rq := rest_eq (u := u) (c := L / 4294967296) (y := Y) eQ hY0 n.hi
    rw [td.1, td.2, ← eQ, ← eM]
    rw [← eM] at rq
    clear td
    have hc1 : L / 4294967296 < 4294967296 := by omega
    have hQ : Q < 4294967296 := by rw [eQ]; exact lt_two k3 hc1
    have hR : R < Y := by rw [eM]; exact Nat.mod_lt _ hY0
    have hc0 : L % 4294967296 < 4294967296 := by omega
    have hy1 : 0 < Y / 4294967296 := by omega
    have hy2 : Y / 4294967296 < 4294967296 := hh.2
    have b1 := BallQ.digit_bound n.e k3 n.d0 (by omega) hy1
    have r1 : u % (Y / 4294967296) < Y / 4294967296 := Nat.mod_lt _ hy1
    have hd0 := n.d0
    have w1 := quo_eq (R := u) (y := Y / 4294967296) (by omega)
    have w2 := rem_eq (R := u) (y := Y / 4294967296) (by omega)
    have nz : Y / 4294967296 ≠ 0 := by omega
    have nz2 : 4294967296 ≤ Y := by omega
    refine Tel.intro mix Try.func91 rfl (Nat.le_of_ble_eq_true rfl) {} (by kernel_rfl) (by kernel_rfl) ?_
    simp -implicitDefEqProofs [-Int.natCast_ediv, -Int.natCast_emod, -Int.natCast_mul, -Int.natCast_add, Try.results91, y0, yh, yh', h0]
    refine callp hz ?_
    simp -implicitDefEqProofs [-Int.natCast_ediv, -Int.natCast_emod, -Int.natCast_mul, -Int.natCast_add, Try.results91, es, es2, eY, eH, eL, eR, eO, a1, a2, sh, nz, nz2, w1, w2]
    clear yh yh' y0 h0 hz eY eH eL eR eO a1 a2 es es2 h hl hy
    refine gwp_loopP (fun k σ => ∃ qh rh : Nat, DV σ (cut d G) Y s u (L / 4294967296) (L % 4294967296) ∧ σ.F 15 = .p (.int .u64 (qh : Int)) ∧ σ.F 16 = .p (.int .u64 (rh : Int)) ∧
      BallQ.Digit u (L / 4294967296) Y (Y / 4294967296) (Y % 4294967296) 4294967296 qh rh ∧ qh ≤ 4294967297 ∧ rh < 4294967296 ∧ k + rh = 4294967296)
      (fun e σ => e = .exit 0 ∧ DV σ (cut d G) Y s u (L / 4294967296) (L % 4294967296) ∧ σ.F 15 = .p (.int .u64 (Q : Int))) (m := 4294967296 - u % (Y / 4294967296))
      ⟨_, _, ⟨by simp, by simp, by simp, by simp, by simp, by simp, by simp, rfl⟩, by simp -implicitDefEqProofs [-Int.natCast_ediv, -Int.natCast_emod, -Int.natCast_mul, -Int.natCast_add, w1], by simp -implicitDefEqProofs [-Int.natCast_ediv, -Int.natCast_emod, -Int.natCast_mul, -Int.natCast_add, w1, w2], BallQ.digit_start n.e hy1 hc1, b1, by omega, by omega⟩ ?_ ?_
    · rintro k σ ⟨qh, rh, ⟨f2, f8, f9, f10, f11, f13, f14, hg⟩, f15, f16, D, hq, hr, hk⟩
      have more : (4294967296 ≤ qh ∨ 4294967296 * rh + L / 4294967296 < qh * (Y % 4294967296)) → 0 < qh ∧ BallQ.Digit u (L / 4294967296) Y (Y / 4294967296) (Y % 4294967296) 4294967296 (qh - 1) (rh + Y / 4294967296) := by
        intro h
        have hm := BallQ.digit_more D n.e hY0 k3 hc1 h
        exact ⟨Nat.lt_of_le_of_lt (Nat.zero_le _) hm, BallQ.digit_step D hm⟩
      have e1 : IntKind.u64.wrap ((rh : Int) + ((Y / 4294967296 : Nat) : Int)) = ((rh + Y / 4294967296 : Nat) : Int) := by rw [wu64]; omega
      have e2 : 0 < qh → IntKind.u64.wrap ((qh : Int) - 1) = ((qh - 1 : Nat) : Int) := fun h => by rw [wu64]; omega
      have g1 := fun q : Nat => ge_iff (q := q) (n := 4294967296) (z := 4294967296) rfl
      by_cases hb : 4294967296 ≤ qh
      · obtain ⟨q0, D'⟩ := more (.inl hb)
        by_cases hf : 4294967296 ≤ rh + Y / 4294967296
        · have eq' := BallQ.digit_far D' n.e hY0 hd0 (by omega) hf
          simp -implicitDefEqProofs [-Int.natCast_ediv, -Int.natCast_emod, -Int.natCast_mul, -Int.natCast_add, DV_iff, f2, f8, f9, f10, f11, f13, f14, f15, f16, hg, g1, hb, e1, e2 q0, hf]
          rw [eq', ← eQ]
        · simp -implicitDefEqProofs [-Int.natCast_ediv, -Int.natCast_emod, -Int.natCast_mul, -Int.natCast_add, DV_iff, f2, f8, f9, f10, f11, f13, f14, f15, f16, hg, g1, hb, e1, e2 q0, hf]
          exact ⟨4294967296 - (rh + Y / 4294967296), by omega, qh - 1, rfl, rh + Y / 4294967296, rfl, D', by omega, by omega, by omega⟩
      · have ti := test_iff (q := qh) (rh := rh) (by omega) hd0 hr hc1
        by_cases ht : 4294967296 * rh + L / 4294967296 < qh * (Y % 4294967296)
        · obtain ⟨q0, D'⟩ := more (.inr ht)
          by_cases hf : 4294967296 ≤ rh + Y / 4294967296
          · have eq' := BallQ.digit_far D' n.e hY0 hd0 (by omega) hf
            simp -implicitDefEqProofs [-Int.natCast_ediv, -Int.natCast_emod, -Int.natCast_mul, -Int.natCast_add, DV_iff, f2, f8, f9, f10, f11, f13, f14, f15, f16, hg, g1, hb, e1, e2 q0, hf, ti, ht]
            rw [eq', ← eQ]
          · simp -implicitDefEqProofs [-Int.natCast_ediv, -Int.natCast_emod, -Int.natCast_mul, -Int.natCast_add, DV_iff, f2, f8, f9, f10, f11, f13, f14, f15, f16, hg, g1, hb, e1, e2 q0, hf, ti, ht]
            exact ⟨4294967296 - (rh + Y / 4294967296), by omega, qh - 1, rfl, rh + Y / 4294967296, rfl, D', by omega, by omega, by omega⟩
        · have eq' := BallQ.digit_end D n.e hY0 (by omega)
          simp -implicitDefEqProofs [-Int.natCast_ediv, -Int.natCast_emod, -Int.natCast_mul, -Int.natCast_add, DV_iff, f2, f8, f9, f10, f11, f13, f14, f15, f16, hg, g1, hb, ti, ht]
          rw [eq', ← eQ]
    · rintro e σ ⟨rfl, ⟨f2, f8, f9, f10, f11, f13, f14, hg⟩, f15⟩
      have b2 := BallQ.digit_bound n.e hR n.d0 (by omega) hy1
      have r2 : R % (Y / 4294967296) < Y / 4294967296 := Nat.mod_lt _ hy1
      have lt2 := lt_two hR hc0
      have R64 : R < 18446744073709551616 := Nat.lt_trans hR sN
      have v1 := quo_eq (R := R) (y := Y / 4294967296) R64
      have v2 := rem_eq (R := R) (y := Y / 4294967296) R64
      simp -implicitDefEqProofs [-Int.natCast_ediv, -Int.natCast_emod, -Int.natCast_mul, -Int.natCast_add, f2, f8, f9, f10, f11, f13, f14, f15, hg, nz2, rq, v1, v2]
      refine gwp_loopP (fun k σ => ∃ qh rh : Nat, DV σ (cut d G) Y s u (L / 4294967296) (L % 4294967296) ∧ σ.F 15 = .p (.int .u64 (Q : Int)) ∧ σ.F 17 = .p (.int .u64 (R : Int)) ∧ σ.F 18 = .p (.int .u64 (qh : Int)) ∧ σ.F 16 = .p (.int .u64 (rh : Int)) ∧
        BallQ.Digit R (L % 4294967296) Y (Y / 4294967296) (Y % 4294967296) 4294967296 qh rh ∧ qh ≤ 4294967297 ∧ rh < 4294967296 ∧ k + rh = 4294967296)
        (fun e σ => e = .exit 2 ∧ DV σ (cut d G) Y s u (L / 4294967296) (L % 4294967296) ∧ σ.F 15 = .p (.int .u64 (Q : Int)) ∧ σ.F 17 = .p (.int .u64 (R : Int)) ∧ σ.F 18 = .p (.int .u64 (((R * 4294967296 + L % 4294967296) / Y : Nat) : Int))) (m := 4294967296 - R % (Y / 4294967296))
        ⟨R / (Y / 4294967296), R % (Y / 4294967296), DV_iff.2 (by simp -implicitDefEqProofs [-Int.natCast_ediv, -Int.natCast_emod, -Int.natCast_mul, -Int.natCast_add, f2, f8, f9, f10, f11, f13, f14, hg]), by simp -implicitDefEqProofs [-Int.natCast_ediv, -Int.natCast_emod, -Int.natCast_mul, -Int.natCast_add, f15], by simp -implicitDefEqProofs [-Int.natCast_ediv, -Int.natCast_emod, -Int.natCast_mul, -Int.natCast_add, rq], by simp -implicitDefEqProofs [-Int.natCast_ediv, -Int.natCast_emod, -Int.natCast_mul, -Int.natCast_add, v1], by simp -implicitDefEqProofs [-Int.natCast_ediv, -Int.natCast_emod, -Int.natCast_mul, -Int.natCast_add, v1, v2], BallQ.digit_start n.e hy1 hc0, b2, by omega, by omega⟩ ?_ ?_
      · rintro k σ ⟨qh, rh, ⟨f2, f8, f9, f10, f11, f13, f14, hg⟩, f15, f17, f18, f16, D, hq, hr, hk⟩
        have more : (4294967296 ≤ qh ∨ 4294967296 * rh + L % 4294967296 < qh * (Y % 4294967296)) → 0 < qh ∧ BallQ.Digit R (L % 4294967296) Y (Y / 4294967296) (Y % 4294967296) 4294967296 (qh - 1) (rh + Y / 4294967296) := by
          intro h
          have hm := BallQ.digit_more D n.e hY0 hR hc0 h
          exact ⟨Nat.lt_of_le_of_lt (Nat.zero_le _) hm, BallQ.digit_step D hm⟩
        have e1 : IntKind.u64.wrap ((rh : Int) + ((Y / 4294967296 : Nat) : Int)) = ((rh + Y / 4294967296 : Nat) : Int) := by rw [wu64]; omega
        have e2 : 0 < qh → IntKind.u64.wrap ((qh : Int) - 1) = ((qh - 1 : Nat) : Int) := fun h => by rw [wu64]; omega
        have g1 := fun q : Nat => ge_iff (q := q) (n := 4294967296) (z := 4294967296) rfl
        by_cases hb : 4294967296 ≤ qh
        · obtain ⟨q0, D'⟩ := more (.inl hb)
          by_cases hf : 4294967296 ≤ rh + Y / 4294967296
          · have eq' := BallQ.digit_far D' n.e hY0 hd0 (by omega) hf
            simp -implicitDefEqProofs [-Int.natCast_ediv, -Int.natCast_emod, -Int.natCast_mul, -Int.natCast_add, DV_iff, f2, f8, f9, f10, f11, f13, f14, f15, f16, f17, f18, hg, g1, hb, e1, e2 q0, hf]
            rw [eq']
          · simp -implicitDefEqProofs [-Int.natCast_ediv, -Int.natCast_emod, -Int.natCast_mul, -Int.natCast_add, DV_iff, f2, f8, f9, f10, f11, f13, f14, f15, f16, f17, f18, hg, g1, hb, e1, e2 q0, hf]
            exact ⟨4294967296 - (rh + Y / 4294967296), by omega, qh - 1, rfl, rh + Y / 4294967296, rfl, D', by omega, by omega, by omega⟩
        · have ti := test_iff (q := qh) (rh := rh) (by omega) hd0 hr hc0
          by_cases ht : 4294967296 * rh + L % 4294967296 < qh * (Y % 4294967296)
          · obtain ⟨q0, D'⟩ := more (.inr ht)
            by_cases hf : 4294967296 ≤ rh + Y / 4294967296
            · have eq' := BallQ.digit_far D' n.e hY0 hd0 (by omega) hf
              simp -implicitDefEqProofs [-Int.natCast_ediv, -Int.natCast_emod, -Int.natCast_mul, -Int.natCast_add, DV_iff, f2, f8, f9, f10, f11, f13, f14, f15, f16, f17, f18, hg, g1, hb, e1, e2 q0, hf, ti, ht]
              rw [eq']
            · simp -implicitDefEqProofs [-Int.natCast_ediv, -Int.natCast_emod, -Int.natCast_mul, -Int.natCast_add, DV_iff, f2, f8, f9, f10, f11, f13, f14, f15, f16, f17, f18, hg, g1, hb, e1, e2 q0, hf, ti, ht]
              exact ⟨4294967296 - (rh + Y / 4294967296), by omega, qh - 1, rfl, rh + Y / 4294967296, rfl, D', by omega, by omega, by omega⟩
          · have eq' := BallQ.digit_end D n.e hY0 (by omega)
            simp -implicitDefEqProofs [-Int.natCast_ediv, -Int.natCast_emod, -Int.natCast_mul, -Int.natCast_add, DV_iff, f2, f8, f9, f10, f11, f13, f14, f15, f16, f17, f18, hg, g1, hb, ti, ht]
            rw [eq']
      · rintro e σ ⟨rfl, ⟨f2, f8, f9, f10, f11, f13, f14, hg⟩, f15, f17, f18⟩
        have rq2 := rest_eq (u := R) (c := L % 4294967296) (y := Y) rfl hY0 n.hi
        have sr := shr_eq ((R * 4294967296 + L % 4294967296) % Y) s s64
        have wq := wq_eq hQ lt2
        simp -implicitDefEqProofs [-Int.natCast_ediv, -Int.natCast_emod, -Int.natCast_mul, -Int.natCast_add, f2, f8, f9, f10, f11, f13, f14, f15, f17, f18, hg, rq2, sr, wq]
theorem rem64_ev (hi lo y : Nat) (h0 : 0 < y) (hy : y < 18446744073709551616) (hl : lo < 18446744073709551616) (d : Nat) (G : Heap) : Tel Try.prog TB d 90 [.p (.int .u64 (hi : Int)), .p (.int .u64 (lo : Int)), .p (.int .u64 (y : Int))] G
    (.p (.int .u64 (((hi * 18446744073709551616 + lo) % y : Nat) : Int))) G := by
  have e : Int.tmod (hi : Int) (y : Int) = ((hi % y : Nat) : Int) := by rw [Int.tmod_eq_emod_of_nonneg (by omega)]; rfl
  have y0 : ¬ (y = 0) := by omega
  have em : (hi % y * 18446744073709551616 + lo) % y = (hi * 18446744073709551616 + lo) % y := by
    rw [Nat.add_mod, Nat.mul_mod, Nat.mod_mod, ← Nat.mul_mod, ← Nat.add_mod]
  refine Tel.intro mix Try.func90 rfl (Nat.le_of_ble_eq_true rfl) {} (by kernel_rfl) (by kernel_rfl) ?_
  simp -implicitDefEqProofs [-Int.natCast_ediv, -Int.natCast_emod, -Int.natCast_mul, -Int.natCast_add, Try.results90, e, y0]
  refine callp (div64_ev (hi % y) lo y (Nat.mod_lt _ h0) hy hl _ _) ?_
  simp -implicitDefEqProofs [-Int.natCast_ediv, -Int.natCast_emod, -Int.natCast_mul, -Int.natCast_add, Try.results90, em]
end Go.E
end
section
set_option linter.all false
set_option maxRecDepth 100000
namespace Go.E
open Go Go.Proofs Go.Eng
open BallQ (In64 Right q out fits put)
variable {TB : Nat → Option Obj}
theorem sum_ev (a b c e v : Int) (ha : In64 a) (hb : In64 b) (hc : In64 c) (he : In64 e) (hv : v = a * b + c * e) :
    ∃ m : Bool, (v ≠ 0 → m = decide (v < 0)) ∧ ∀ d G, Tel Try.prog TB d 89 [.p (.int .i64 a), .p (.int .i64 b), .p (.int .i64 c), .p (.int .i64 e)] G
      (.tup [.p (.int .u64 ((v.natAbs / 18446744073709551616 : Nat) : Int)), .p (.int .u64 ((v.natAbs % 18446744073709551616 : Nat) : Int)), .p (.bool m)]) G := by
  have ka := natAbs_le ha
  have kb := natAbs_le hb
  have kc := natAbs_le hc
  have kd := natAbs_le he
  have hP : a.natAbs * b.natAbs ≤ 9223372036854775808 * 9223372036854775808 := Nat.mul_le_mul ka kb
  have hQ : c.natAbs * e.natAbs ≤ 9223372036854775808 * 9223372036854775808 := Nat.mul_le_mul kc kd
  have m1 := fun d G => mul64_ev (TB := TB) a.natAbs b.natAbs (by omega) (by omega) d G
  have m2 := fun d G => mul64_ev (TB := TB) c.natAbs e.natAbs (by omega) (by omega) d G
  have z1 := fun d G => size_ev (TB := TB) a ha d G
  have z2 := fun d G => size_ev (TB := TB) b hb d G
  have z3 := fun d G => size_ev (TB := TB) c hc d G
  have z4 := fun d G => size_ev (TB := TB) e he d G
  have s1 := signed_mul a b
  have s2 := signed_mul c e
  rw [s1, s2] at hv
  have w1 : (!(decide (a < 0) == decide (b < 0))) = (decide (a < 0) != decide (b < 0)) := rfl
  have w2 : (!(decide (c < 0) == decide (e < 0))) = (decide (c < 0) != decide (e < 0)) := rfl
  generalize hx : (decide (a < 0) != decide (b < 0)) = x at *
  generalize hy : (decide (c < 0) != decide (e < 0)) = y at *
  generalize a.natAbs = an at *
  generalize b.natAbs = bn at *
  generalize c.natAbs = cn at *
  generalize e.natAbs = en at *
  generalize an * bn = P at *
  generalize cn * en = Q at *
  by_cases hxy : x = y
  · subst hxy
    refine ⟨x, ?_, fun d G => ?_⟩
    · intro h0
      subst hv
      cases x
      · simp at h0 ⊢; omega
      · simp at h0 ⊢; omega
    · have hvn : v.natAbs = P + Q := by subst hv; cases x <;> simp <;> omega
      have e1 : (P / 18446744073709551616 + Q / 18446744073709551616 + (P % 18446744073709551616 + Q % 18446744073709551616 + 0) / 18446744073709551616) % 18446744073709551616 = (P + Q) / 18446744073709551616 := by omega
      have e2 : (P % 18446744073709551616 + Q % 18446744073709551616) % 18446744073709551616 = (P + Q) % 18446744073709551616 := by omega
      have e3 : (P % 18446744073709551616 + Q % 18446744073709551616 + 0) / 18446744073709551616 = (P % 18446744073709551616 + Q % 18446744073709551616) / 18446744073709551616 := rfl
      rw [hvn, ← e1, ← e2]
      refine Tel.intro mix Try.func89 rfl (Nat.le_of_ble_eq_true rfl) {} (by kernel_rfl) (by kernel_rfl) ?_
      simp -implicitDefEqProofs [-Int.natCast_ediv, -Int.natCast_emod, -Int.natCast_mul, -Int.natCast_add, Try.results89, w1, w2]
      refine callp (z1 _ _) ?_
      simp -implicitDefEqProofs [-Int.natCast_ediv, -Int.natCast_emod, -Int.natCast_mul, -Int.natCast_add, Try.results89, w1, w2]
      refine callp (z2 _ _) ?_
      simp -implicitDefEqProofs [-Int.natCast_ediv, -Int.natCast_emod, -Int.natCast_mul, -Int.natCast_add, Try.results89, w1, w2]
      refine callp (m1 _ _) ?_
      simp -implicitDefEqProofs [-Int.natCast_ediv, -Int.natCast_emod, -Int.natCast_mul, -Int.natCast_add, Try.results89, w1, w2]
      refine callp (z3 _ _) ?_
      simp -implicitDefEqProofs [-Int.natCast_ediv, -Int.natCast_emod, -Int.natCast_mul, -Int.natCast_add, Try.results89, w1, w2]
      refine callp (z4 _ _) ?_
      simp -implicitDefEqProofs [-Int.natCast_ediv, -Int.natCast_emod, -Int.natCast_mul, -Int.natCast_add, Try.results89, w1, w2]
      refine callp (m2 _ _) ?_
      simp -implicitDefEqProofs [-Int.natCast_ediv, -Int.natCast_emod, -Int.natCast_mul, -Int.natCast_add, Try.results89, w1, w2]
      refine callp (add64_ev (P % 18446744073709551616) (Q % 18446744073709551616) 0 (by omega) _ _) ?_
      simp -implicitDefEqProofs [-Int.natCast_ediv, -Int.natCast_emod, -Int.natCast_mul, -Int.natCast_add, Try.results89, w1, w2]
      refine callp (add64_ev (P / 18446744073709551616) (Q / 18446744073709551616) ((P % 18446744073709551616 + Q % 18446744073709551616 + 0) / 18446744073709551616) (by omega) _ _) ?_
      simp -implicitDefEqProofs [-Int.natCast_ediv, -Int.natCast_emod, -Int.natCast_mul, -Int.natCast_add, Try.results89, w1, w2]
  · have hyx : y = !x := by cases x <;> cases y <;> simp_all
    have hvn : v.natAbs = if P < Q then Q - P else P - Q := by
      subst hv hyx; cases x <;> simp <;> split <;> omega
    have ne : (x == y) = false := by rw [hyx]; cases x <;> rfl
    refine ⟨if P < Q then y else x, ?_, fun d G => ?_⟩
    · intro h0
      subst hv hyx
      by_cases h : P < Q
      · rw [if_pos h]; cases x <;> simp at h0 ⊢ <;> omega
      · rw [if_neg h]; cases x <;> simp at h0 ⊢ <;> omega
    · rw [hvn]
      clear hvn hv s1 s2 ha hb hc he ka kb kc kd
      by_cases g1 : P / 18446744073709551616 < Q / 18446744073709551616
      · have f1 : (((P / 18446744073709551616 : Nat) : Int) < ((Q / 18446744073709551616 : Nat) : Int)) = True := by simp only [eq_iff_iff, iff_true]; omega
        have hlt : P < Q := by omega
        rw [if_pos hlt, if_pos hlt]
        have e1 : (Q / 18446744073709551616 + 18446744073709551616 - P / 18446744073709551616 - (if Q % 18446744073709551616 < P % 18446744073709551616 + 0 then 1 else 0)) % 18446744073709551616 = (Q - P) / 18446744073709551616 := by split <;> omega
        have e2 : (Q % 18446744073709551616 + 18446744073709551616 - P % 18446744073709551616 - 0) % 18446744073709551616 = (Q - P) % 18446744073709551616 := by omega
        rw [← e1, ← e2]
        have b1 : (if Q % 18446744073709551616 < P % 18446744073709551616 + 0 then 1 else 0) ≤ 1 := by split <;> omega
        generalize hb0 : (if Q % 18446744073709551616 < P % 18446744073709551616 + 0 then 1 else 0) = b0 at *
        have s0 := fun d G => sub64_ev (TB := TB) (Q % 18446744073709551616) (P % 18446744073709551616) 0 (by omega) d G
        rw [hb0] at s0
        have s1 := fun d G => sub64_ev (TB := TB) (Q / 18446744073709551616) (P / 18446744073709551616) b0 b1 d G
        refine Tel.intro mix Try.func89 rfl (Nat.le_of_ble_eq_true rfl) {} (by kernel_rfl) (by kernel_rfl) ?_
        simp -implicitDefEqProofs [-Int.natCast_ediv, -Int.natCast_emod, -Int.natCast_mul, -Int.natCast_add, Try.results89, w1, w2, ne, f1]
        refine callp (z1 _ _) ?_
        simp -implicitDefEqProofs [-Int.natCast_ediv, -Int.natCast_emod, -Int.natCast_mul, -Int.natCast_add, Try.results89, w1, w2, ne, f1]
        refine callp (z2 _ _) ?_
        simp -implicitDefEqProofs [-Int.natCast_ediv, -Int.natCast_emod, -Int.natCast_mul, -Int.natCast_add, Try.results89, w1, w2, ne, f1]
        refine callp (m1 _ _) ?_
        simp -implicitDefEqProofs [-Int.natCast_ediv, -Int.natCast_emod, -Int.natCast_mul, -Int.natCast_add, Try.results89, w1, w2, ne, f1]
        refine callp (z3 _ _) ?_
        simp -implicitDefEqProofs [-Int.natCast_ediv, -Int.natCast_emod, -Int.natCast_mul, -Int.natCast_add, Try.results89, w1, w2, ne, f1]
        refine callp (z4 _ _) ?_
        simp -implicitDefEqProofs [-Int.natCast_ediv, -Int.natCast_emod, -Int.natCast_mul, -Int.natCast_add, Try.results89, w1, w2, ne, f1]
        refine callp (m2 _ _) ?_
        simp -implicitDefEqProofs [-Int.natCast_ediv, -Int.natCast_emod, -Int.natCast_mul, -Int.natCast_add, Try.results89, w1, w2, ne, f1]
        refine callp (s0 _ _) ?_
        simp -implicitDefEqProofs [-Int.natCast_ediv, -Int.natCast_emod, -Int.natCast_mul, -Int.natCast_add, Try.results89, w1, w2, ne, f1]
        refine callp (s1 _ _) ?_
        simp -implicitDefEqProofs [-Int.natCast_ediv, -Int.natCast_emod, -Int.natCast_mul, -Int.natCast_add, Try.results89, w1, w2, ne, f1]
      · have f1 : (((P / 18446744073709551616 : Nat) : Int) < ((Q / 18446744073709551616 : Nat) : Int)) = False := by simp only [eq_iff_iff, iff_false]; omega
        by_cases g2 : P / 18446744073709551616 = Q / 18446744073709551616
        · have f2 : (((P / 18446744073709551616 : Nat) : Int) = ((Q / 18446744073709551616 : Nat) : Int)) = True := by simp only [eq_iff_iff, iff_true]; omega
          by_cases g3 : P % 18446744073709551616 < Q % 18446744073709551616
          · have f3 : (((P % 18446744073709551616 : Nat) : Int) < ((Q % 18446744073709551616 : Nat) : Int)) = True := by simp only [eq_iff_iff, iff_true]; omega
            have hlt : P < Q := by omega
            rw [if_pos hlt, if_pos hlt]
            have e1 : (Q / 18446744073709551616 + 18446744073709551616 - P / 18446744073709551616 - (if Q % 18446744073709551616 < P % 18446744073709551616 + 0 then 1 else 0)) % 18446744073709551616 = (Q - P) / 18446744073709551616 := by split <;> omega
            have e2 : (Q % 18446744073709551616 + 18446744073709551616 - P % 18446744073709551616 - 0) % 18446744073709551616 = (Q - P) % 18446744073709551616 := by omega
            rw [← e1, ← e2]
            have b1 : (if Q % 18446744073709551616 < P % 18446744073709551616 + 0 then 1 else 0) ≤ 1 := by split <;> omega
            generalize hb0 : (if Q % 18446744073709551616 < P % 18446744073709551616 + 0 then 1 else 0) = b0 at *
            have s0 := fun d G => sub64_ev (TB := TB) (Q % 18446744073709551616) (P % 18446744073709551616) 0 (by omega) d G
            rw [hb0] at s0
            have s1 := fun d G => sub64_ev (TB := TB) (Q / 18446744073709551616) (P / 18446744073709551616) b0 b1 d G
            refine Tel.intro mix Try.func89 rfl (Nat.le_of_ble_eq_true rfl) {} (by kernel_rfl) (by kernel_rfl) ?_
            simp -implicitDefEqProofs [-Int.natCast_ediv, -Int.natCast_emod, -Int.natCast_mul, -Int.natCast_add, Try.results89, w1, w2, ne, f1, f2, f3]
            refine callp (z1 _ _) ?_
            simp -implicitDefEqProofs [-Int.natCast_ediv, -Int.natCast_emod, -Int.natCast_mul, -Int.natCast_add, Try.results89, w1, w2, ne, f1, f2, f3]
            refine callp (z2 _ _) ?_
            simp -implicitDefEqProofs [-Int.natCast_ediv, -Int.natCast_emod, -Int.natCast_mul, -Int.natCast_add, Try.results89, w1, w2, ne, f1, f2, f3]
            refine callp (m1 _ _) ?_
            simp -implicitDefEqProofs [-Int.natCast_ediv, -Int.natCast_emod, -Int.natCast_mul, -Int.natCast_add, Try.results89, w1, w2, ne, f1, f2, f3]
            refine callp (z3 _ _) ?_
            simp -implicitDefEqProofs [-Int.natCast_ediv, -Int.natCast_emod, -Int.natCast_mul, -Int.natCast_add, Try.results89, w1, w2, ne, f1, f2, f3]
            refine callp (z4 _ _) ?_
            simp -implicitDefEqProofs [-Int.natCast_ediv, -Int.natCast_emod, -Int.natCast_mul, -Int.natCast_add, Try.results89, w1, w2, ne, f1, f2, f3]
            refine callp (m2 _ _) ?_
            simp -implicitDefEqProofs [-Int.natCast_ediv, -Int.natCast_emod, -Int.natCast_mul, -Int.natCast_add, Try.results89, w1, w2, ne, f1, f2, f3]
            refine callp (s0 _ _) ?_
            simp -implicitDefEqProofs [-Int.natCast_ediv, -Int.natCast_emod, -Int.natCast_mul, -Int.natCast_add, Try.results89, w1, w2, ne, f1, f2, f3]
            refine callp (s1 _ _) ?_
            simp -implicitDefEqProofs [-Int.natCast_ediv, -Int.natCast_emod, -Int.natCast_mul, -Int.natCast_add, Try.results89, w1, w2, ne, f1, f2, f3]
          · have f3 : (((P % 18446744073709551616 : Nat) : Int) < ((Q % 18446744073709551616 : Nat) : Int)) = False := by simp only [eq_iff_iff, iff_false]; omega
            have hlt : ¬ (P < Q) := by omega
            rw [if_neg hlt, if_neg hlt]
            have e1 : (P / 18446744073709551616 + 18446744073709551616 - Q / 18446744073709551616 - (if P % 18446744073709551616 < Q % 18446744073709551616 + 0 then 1 else 0)) % 18446744073709551616 = (P - Q) / 18446744073709551616 := by split <;> omega
            have e2 : (P % 18446744073709551616 + 18446744073709551616 - Q % 18446744073709551616 - 0) % 18446744073709551616 = (P - Q) % 18446744073709551616 := by omega
            rw [← e1, ← e2]
            have b1 : (if P % 18446744073709551616 < Q % 18446744073709551616 + 0 then 1 else 0) ≤ 1 := by split <;> omega
            generalize hb0 : (if P % 18446744073709551616 < Q % 18446744073709551616 + 0 then 1 else 0) = b0 at *
            have s0 := fun d G => sub64_ev (TB := TB) (P % 18446744073709551616) (Q % 18446744073709551616) 0 (by omega) d G
            rw [hb0] at s0
            have s1 := fun d G => sub64_ev (TB := TB) (P / 18446744073709551616) (Q / 18446744073709551616) b0 b1 d G
            refine Tel.intro mix Try.func89 rfl (Nat.le_of_ble_eq_true rfl) {} (by kernel_rfl) (by kernel_rfl) ?_
            simp -implicitDefEqProofs [-Int.natCast_ediv, -Int.natCast_emod, -Int.natCast_mul, -Int.natCast_add, Try.results89, w1, w2, ne, f1, f2, f3]
            refine callp (z1 _ _) ?_
            simp -implicitDefEqProofs [-Int.natCast_ediv, -Int.natCast_emod, -Int.natCast_mul, -Int.natCast_add, Try.results89, w1, w2, ne, f1, f2, f3]
            refine callp (z2 _ _) ?_
            simp -implicitDefEqProofs [-Int.natCast_ediv, -Int.natCast_emod, -Int.natCast_mul, -Int.natCast_add, Try.results89, w1, w2, ne, f1, f2, f3]
            refine callp (m1 _ _) ?_
            simp -implicitDefEqProofs [-Int.natCast_ediv, -Int.natCast_emod, -Int.natCast_mul, -Int.natCast_add, Try.results89, w1, w2, ne, f1, f2, f3]
            refine callp (z3 _ _) ?_
            simp -implicitDefEqProofs [-Int.natCast_ediv, -Int.natCast_emod, -Int.natCast_mul, -Int.natCast_add, Try.results89, w1, w2, ne, f1, f2, f3]
            refine callp (z4 _ _) ?_
            simp -implicitDefEqProofs [-Int.natCast_ediv, -Int.natCast_emod, -Int.natCast_mul, -Int.natCast_add, Try.results89, w1, w2, ne, f1, f2, f3]
            refine callp (m2 _ _) ?_
            simp -implicitDefEqProofs [-Int.natCast_ediv, -Int.natCast_emod, -Int.natCast_mul, -Int.natCast_add, Try.results89, w1, w2, ne, f1, f2, f3]
            refine callp (s0 _ _) ?_
            simp -implicitDefEqProofs [-Int.natCast_ediv, -Int.natCast_emod, -Int.natCast_mul, -Int.natCast_add, Try.results89, w1, w2, ne, f1, f2, f3]
            refine callp (s1 _ _) ?_
            simp -implicitDefEqProofs [-Int.natCast_ediv, -Int.natCast_emod, -Int.natCast_mul, -Int.natCast_add, Try.results89, w1, w2, ne, f1, f2, f3]
        · have f2 : (((P / 18446744073709551616 : Nat) : Int) = ((Q / 18446744073709551616 : Nat) : Int)) = False := by simp only [eq_iff_iff, iff_false]; omega
          have hlt : ¬ (P < Q) := by omega
          rw [if_neg hlt, if_neg hlt]
          have e1 : (P / 18446744073709551616 + 18446744073709551616 - Q / 18446744073709551616 - (if P % 18446744073709551616 < Q % 18446744073709551616 + 0 then 1 else 0)) % 18446744073709551616 = (P - Q) / 18446744073709551616 := by split <;> omega
          have e2 : (P % 18446744073709551616 + 18446744073709551616 - Q % 18446744073709551616 - 0) % 18446744073709551616 = (P - Q) % 18446744073709551616 := by omega
          rw [← e1, ← e2]
          have b1 : (if P % 18446744073709551616 < Q % 18446744073709551616 + 0 then 1 else 0) ≤ 1 := by split <;> omega
          generalize hb0 : (if P % 18446744073709551616 < Q % 18446744073709551616 + 0 then 1 else 0) = b0 at *
          have s0 := fun d G => sub64_ev (TB := TB) (P % 18446744073709551616) (Q % 18446744073709551616) 0 (by omega) d G
          rw [hb0] at s0
          have s1 := fun d G => sub64_ev (TB := TB) (P / 18446744073709551616) (Q / 18446744073709551616) b0 b1 d G
          refine Tel.intro mix Try.func89 rfl (Nat.le_of_ble_eq_true rfl) {} (by kernel_rfl) (by kernel_rfl) ?_
          simp -implicitDefEqProofs [-Int.natCast_ediv, -Int.natCast_emod, -Int.natCast_mul, -Int.natCast_add, Try.results89, w1, w2, ne, f1, f2]
          refine callp (z1 _ _) ?_
          simp -implicitDefEqProofs [-Int.natCast_ediv, -Int.natCast_emod, -Int.natCast_mul, -Int.natCast_add, Try.results89, w1, w2, ne, f1, f2]
          refine callp (z2 _ _) ?_
          simp -implicitDefEqProofs [-Int.natCast_ediv, -Int.natCast_emod, -Int.natCast_mul, -Int.natCast_add, Try.results89, w1, w2, ne, f1, f2]
          refine callp (m1 _ _) ?_
          simp -implicitDefEqProofs [-Int.natCast_ediv, -Int.natCast_emod, -Int.natCast_mul, -Int.natCast_add, Try.results89, w1, w2, ne, f1, f2]
          refine callp (z3 _ _) ?_
          simp -implicitDefEqProofs [-Int.natCast_ediv, -Int.natCast_emod, -Int.natCast_mul, -Int.natCast_add, Try.results89, w1, w2, ne, f1, f2]
          refine callp (z4 _ _) ?_
          simp -implicitDefEqProofs [-Int.natCast_ediv, -Int.natCast_emod, -Int.natCast_mul, -Int.natCast_add, Try.results89, w1, w2, ne, f1, f2]
          refine callp (m2 _ _) ?_
          simp -implicitDefEqProofs [-Int.natCast_ediv, -Int.natCast_emod, -Int.natCast_mul, -Int.natCast_add, Try.results89, w1, w2, ne, f1, f2]
          refine callp (s0 _ _) ?_
          simp -implicitDefEqProofs [-Int.natCast_ediv, -Int.natCast_emod, -Int.natCast_mul, -Int.natCast_add, Try.results89, w1, w2, ne, f1, f2]
          refine callp (s1 _ _) ?_
          simp -implicitDefEqProofs [-Int.natCast_ediv, -Int.natCast_emod, -Int.natCast_mul, -Int.natCast_add, Try.results89, w1, w2, ne, f1, f2]
end Go.E
end
section
set_option linter.all false
set_option maxRecDepth 100000
namespace Go.E
open Go Go.Proofs Go.Eng
open BallQ (In64 Right q out fits put)
variable {TB : Nat → Option Obj}
def rG (x : Int × Int × Int) : GV := .tup [.agg [.p (.int .i64 x.1), .p (.int .i64 x.2.1)], .p (.int .i64 x.2.2)]
@[simp] theorem adopt_rG {d t : Nat} {x : Int × Int × Int} : adopt d t (rG x) [] = (rG x, []) := by unfold rG; simp
theorem i64_quo {X g : Nat} (hX : X < 9223372036854775808) : IntKind.i64.wrap ((X : Int) / (g : Int)) = ((X / g : Nat) : Int) := by
  have hd := Nat.div_le_self X g
  rw [← Int.natCast_ediv]
  generalize X / g = y at *
  rw [wi64]; omega
theorem i64_nat {X : Nat} (hX : X < 9223372036854775808) : IntKind.i64.wrap (X : Int) = (X : Int) := by
  rw [wi64]; omega
theorem size_nat (A : Nat) (hA : A < 9223372036854775808) (d : Nat) (G : Heap) : Tel Try.prog TB d 80 [.p (.int .i64 (A : Int))] G (.p (.int .u64 (A : Int))) G := by
  have := size_ev (TB := TB) (A : Int) (in64_nat hA) d G
  rwa [Int.natAbs_natCast] at this
theorem add_run {aN bN : Int} {A B g A' B' : Nat} (h1 : In64 aN) (h3 : In64 bN) (hA : A < 9223372036854775808) (hB : B < 9223372036854775808) (hg : g = A.gcd B) (hg0 : 0 < g) (hgA : g < 9223372036854775808) (eA : A' = A / g) (eB : B' = B / g)
    {v t : Int} {p D : Nat} (hv : v = aN * (B' : Int) + bN * (A' : Int)) (hp : p = g.gcd v.natAbs) (ht : v = (p : Int) * t) (hD : D = A' * (B / p)) (hDne : D ≠ 0) (hcop : t.natAbs.gcd D = 1) (hra : Right aN A) (hrb : Right bN B) (d : Nat) (G : Heap) :
    Tel Try.prog TB d 58 [.agg [.p (.int .i64 aN), .p (.int .i64 (A : Int))], .agg [.p (.int .i64 bN), .p (.int .i64 (B : Int))]] G (rG (out (mkRat t D))) G := by
  have hp0 : 0 < p := by rw [hp]; exact Nat.gcd_pos_of_pos_left _ hg0
  have hpg : p ≤ g := by rw [hp]; exact Nat.gcd_le_left _ hg0
  have dA : A' < 9223372036854775808 := by rw [eA]; exact Nat.lt_of_le_of_lt (Nat.div_le_self _ _) hA
  have dB : B' < 9223372036854775808 := by rw [eB]; exact Nat.lt_of_le_of_lt (Nat.div_le_self _ _) hB
  have dP : B / p < 9223372036854775808 := Nat.lt_of_le_of_lt (Nat.div_le_self _ _) hB
  obtain ⟨m, hm, hs⟩ := sum_ev (TB := TB) aN (B' : Int) bN (A' : Int) v h1 (in64_nat dB) h3 (in64_nat dA) hv
  have hvb : v.natAbs < 340282366920938463463374607431768211456 := by rw [hv]; exact sum_bound (prod_bound h1 dB) (prod_bound h3 dA)
  obtain ⟨ewh, hl1, hl2⟩ := nat_split _ hvb
  have zA := fun d G => size_nat (TB := TB) A hA d G
  have zB := fun d G => size_nat (TB := TB) B hB d G
  have cAB := fun d G => common_ev (TB := TB) A B d G
  rw [← hg] at cAB
  have rA := fun d G => right_ev (TB := TB) aN (A : Int) h1 (in64_nat hA) d G
  have rB := fun d G => right_ev (TB := TB) bN (B : Int) h3 (in64_nat hB) d G
  rw [decide_eq_true hra] at rA
  rw [decide_eq_true hrb] at rB
  have ew : IntKind.i64.wrap (g : Int) = (g : Int) := i64_nat hgA
  have tA : IntKind.i64.wrap ((A : Int) / (g : Int)) = (A' : Int) := by rw [i64_quo hA, ← eA]
  have tB : IntKind.i64.wrap ((B : Int) / (g : Int)) = (B' : Int) := by rw [i64_quo hB, ← eB]
  have uA : IntKind.u64.wrap ((A : Int) / (g : Int)) = (A' : Int) := by rw [quo_eq (lt64 hA), ← eA]
  have uB : IntKind.u64.wrap ((B : Int) / (p : Int)) = ((B / p : Nat) : Int) := quo_eq (lt64 hB)
  have g0 : ¬ (g = 0) := Nat.ne_of_gt hg0
  have p0 : ¬ (p = 0) := Nat.ne_of_gt hp0
  have oz : (orI .u64 ((v.natAbs / 18446744073709551616 : Nat) : Int) ((v.natAbs % 18446744073709551616 : Nat) : Int) = 0) = (v = 0) := by
    refine propext ((or_zero hl1 hl2).trans ⟨fun h => ?_, fun h => by rw [h]; exact ⟨rfl, rfl⟩⟩)
    have : v.natAbs = 0 := by rw [← ewh, h.1, h.2]
    exact Int.natAbs_eq_zero.1 this
  have hrem := fun d G => rem64_ev (TB := TB) (v.natAbs / 18446744073709551616) (v.natAbs % 18446744073709551616) g hg0 (lt64 hgA) hl2 d G
  rw [ewh] at hrem
  have c2 := fun d G => common_ev (TB := TB) g (v.natAbs % g) d G
  have eg : g.gcd (v.natAbs % g) = p := by rw [Nat.gcd_comm, ← Nat.gcd_rec, hp]
  rw [eg] at c2
  obtain ⟨f1, f2, f3⟩ := add_fin (D := D) hp0 ht m
  have hprod := fun d G => product_ev (TB := TB) A' (B / p) (lt64 dA) (lt64 dP) d G
  rw [← hD] at hprod
  have hdiv : v.natAbs / 18446744073709551616 < p → ∀ d G, Tel Try.prog TB d 91 [.p (.int .u64 ((v.natAbs / 18446744073709551616 : Nat) : Int)), .p (.int .u64 ((v.natAbs % 18446744073709551616 : Nat) : Int)), .p (.int .u64 (p : Int))] G
    (.tup [.p (.int .u64 (t.natAbs : Int)), .p (.int .u64 ((v.natAbs % p : Nat) : Int))]) G := fun hh d G => by
      have := div64_ev (TB := TB) (v.natAbs / 18446744073709551616) (v.natAbs % 18446744073709551616) p hh (Nat.lt_of_le_of_lt hpg (lt64 hgA)) hl2 d G
      rwa [ewh, f3] at this
  have hz0 : v = 0 → mkRat t D = 0 := fun hz => by
    have t0 : t = 0 := by
      rcases Int.mul_eq_zero.1 (ht.symm.trans hz) with h | h
      · exact absurd h (pos_ne hp0)
      · exact h
    rw [t0, Rat.zero_mkRat]
  have hcp : v ≠ 0 → out (mkRat t D) = put t.natAbs D m := fun hz => BallQ.out_cop t D hDne hcop m (fun _ => (hm hz).trans (sign_of hp0 ht))
  have hput := fun h1 h2 d G => put_ev (TB := TB) t.natAbs D m h1 h2 d G
  have g1 := fun q n : Nat => ge_iff (q := q) (n := n) (z := (n : Int)) rfl
  generalize hH : v.natAbs / 18446744073709551616 = H at *
  generalize hL : v.natAbs % 18446744073709551616 = L at *
  generalize v.natAbs % g = rg at *
  generalize v.natAbs % p = rp at *
  generalize B / p = Bp at *
  clear hv ht hD eA eB hp hg hra hrb hvb ewh hl1 hl2 f3 eg hH hL
  refine Tel.intro mix Try.func58 rfl (Nat.le_of_ble_eq_true rfl) {} (by kernel_rfl) (by kernel_rfl) ?_
  simp -implicitDefEqProofs [-Int.natCast_ediv, -Int.natCast_emod, -Int.natCast_mul, -Int.natCast_add, Try.results58]
  refine callp (rA _ _) ?_
  simp -implicitDefEqProofs [-Int.natCast_ediv, -Int.natCast_emod, -Int.natCast_mul, -Int.natCast_add, Try.results58]
  refine callp (rB _ _) ?_
  simp -implicitDefEqProofs [-Int.natCast_ediv, -Int.natCast_emod, -Int.natCast_mul, -Int.natCast_add, Try.results58]
  refine callp (zA _ _) ?_
  simp -implicitDefEqProofs [-Int.natCast_ediv, -Int.natCast_emod, -Int.natCast_mul, -Int.natCast_add, Try.results58]
  refine callp (zB _ _) ?_
  simp -implicitDefEqProofs [-Int.natCast_ediv, -Int.natCast_emod, -Int.natCast_mul, -Int.natCast_add, Try.results58]
  refine callp (cAB _ _) ?_
  simp -implicitDefEqProofs [-Int.natCast_ediv, -Int.natCast_emod, -Int.natCast_mul, -Int.natCast_add, Try.results58, ew, g0, tA, tB]
  refine callp (hs _ _) ?_
  by_cases hz : v = 0
  · rw [hz0 hz, out_zero]
    simp -implicitDefEqProofs [-Int.natCast_ediv, -Int.natCast_emod, -Int.natCast_mul, -Int.natCast_add, Try.results58, oz, hz, rG]
  · rw [hcp hz]
    simp -implicitDefEqProofs [-Int.natCast_ediv, -Int.natCast_emod, -Int.natCast_mul, -Int.natCast_add, Try.results58, oz, hz]
    refine callp (hrem _ _) ?_
    simp -implicitDefEqProofs [-Int.natCast_ediv, -Int.natCast_emod, -Int.natCast_mul, -Int.natCast_add, Try.results58]
    refine callp (c2 _ _) ?_
    by_cases hh : H < p
    · have hge : ¬ (p ≤ H) := Nat.not_le.2 hh
      simp -implicitDefEqProofs [-Int.natCast_ediv, -Int.natCast_emod, -Int.natCast_mul, -Int.natCast_add, Try.results58, hge]
      refine callp (hdiv hh _ _) ?_
      simp -implicitDefEqProofs [-Int.natCast_ediv, -Int.natCast_emod, -Int.natCast_mul, -Int.natCast_add, Try.results58, p0, g0]
      refine callp (zA _ _) ?_
      simp -implicitDefEqProofs [-Int.natCast_ediv, -Int.natCast_emod, -Int.natCast_mul, -Int.natCast_add, Try.results58, p0, g0, uA]
      refine callp (zB _ _) ?_
      simp -implicitDefEqProofs [-Int.natCast_ediv, -Int.natCast_emod, -Int.natCast_mul, -Int.natCast_add, Try.results58, p0, g0, uA, uB]
      refine callp (hprod _ _) ?_
      by_cases hDl : D < 18446744073709551616
      · rw [Nat.mod_eq_of_lt hDl]
        simp -implicitDefEqProofs [-Int.natCast_ediv, -Int.natCast_emod, -Int.natCast_mul, -Int.natCast_add, Try.results58, hDl]
        refine callp (hput (f2 hh) hDl _ _) ?_
        simp -implicitDefEqProofs [-Int.natCast_ediv, -Int.natCast_emod, -Int.natCast_mul, -Int.natCast_add, Try.results58, rG]
      · have hover : put t.natAbs D m = (0, 0, 3) := big_put (.inr hDl)
        rw [hover]
        simp -implicitDefEqProofs [-Int.natCast_ediv, -Int.natCast_emod, -Int.natCast_mul, -Int.natCast_add, Try.results58, hDl, rG]
    · have hge : p ≤ H := Nat.not_lt.1 hh
      rw [f1 hh]
      simp -implicitDefEqProofs [-Int.natCast_ediv, -Int.natCast_emod, -Int.natCast_mul, -Int.natCast_add, Try.results58, hge, rG]
theorem add_ev (aN aD bN bD : Int) (h1 : In64 aN) (h2 : In64 aD) (h3 : In64 bN) (h4 : In64 bD) (d : Nat) (G : Heap) :
    Tel Try.prog TB d 58 [.agg [.p (.int .i64 aN), .p (.int .i64 aD)], .agg [.p (.int .i64 bN), .p (.int .i64 bD)]] G (rG (addS aN aD bN bD)) G := by
  unfold addS
  have rA := fun d G => right_ev (TB := TB) aN aD h1 h2 d G
  have rB := fun d G => right_ev (TB := TB) bN bD h3 h4 d G
  by_cases hra : Right aN aD
  · by_cases hrb : Right bN bD
    · rw [if_pos ⟨hra, hrb⟩]
      obtain ⟨A, rfl, hA0, hA1, hAc⟩ := right_nat hra h2
      obtain ⟨B, rfl, hB0, hB1, hBc⟩ := right_nat hrb h4
      obtain ⟨t, ht, hval, hcop, hne⟩ := BallQ.add_parts hAc hBc hA0 hB0 (aN * ((B / A.gcd B : Nat) : Int) + bN * ((A / A.gcd B : Nat) : Int)) rfl
      have eq0 : q aN (A : Int) + q bN (B : Int) = mkRat aN A + mkRat bN B := by unfold BallQ.q; simp
      rw [eq0, hval]
      have hg0 : 0 < A.gcd B := Nat.gcd_pos_of_pos_left _ hA0
      exact add_run h1 h3 hA1 hB1 rfl hg0 (Nat.lt_of_le_of_lt (Nat.gcd_le_left B hA0) hA1) rfl rfl rfl rfl ht rfl hne hcop hra hrb d G
    · rw [if_neg (fun h => hrb h.2)]
      rw [decide_eq_true hra] at rA
      rw [decide_eq_false hrb] at rB
      refine Tel.intro mix Try.func58 rfl (Nat.le_of_ble_eq_true rfl) {} (by kernel_rfl) (by kernel_rfl) ?_
      simp -implicitDefEqProofs [Try.results58]
      refine callp (rA _ _) ?_
      simp -implicitDefEqProofs [Try.results58]
      refine callp (rB _ _) ?_
      simp -implicitDefEqProofs [Try.results58, rG]
  · rw [if_neg (fun h => hra h.1)]
    rw [decide_eq_false hra] at rA
    refine Tel.intro mix Try.func58 rfl (Nat.le_of_ble_eq_true rfl) {} (by kernel_rfl) (by kernel_rfl) ?_
    simp -implicitDefEqProofs [Try.results58]
    refine callp (rA _ _) ?_
    simp -implicitDefEqProofs [Try.results58, rG]
end Go.E
end
section
set_option linter.all false
set_option maxRecDepth 100000
namespace Go.E
open Go Go.Proofs Go.Eng
open BallQ (In64 Right q out fits put)
variable {TB : Nat → Option Obj}
theorem mul_run {aN bN : Int} {A B : Nat} (h1 : In64 aN) (h3 : In64 bN) (hA : A < 9223372036854775808) (hB : B < 9223372036854775808) (hA0 : 0 < A) (hB0 : 0 < B) (ha : aN.natAbs.gcd A = 1) (hb : bN.natAbs.gcd B = 1)
    (hra : Right aN A) (hrb : Right bN B) (d : Nat) (G : Heap) :
    Tel Try.prog TB d 51 [.agg [.p (.int .i64 aN), .p (.int .i64 (A : Int))], .agg [.p (.int .i64 bN), .p (.int .i64 (B : Int))]] G (rG (out (mkRat aN A * mkRat bN B))) G := by
  have g1 : 0 < aN.natAbs.gcd B := Nat.gcd_pos_of_pos_right _ hB0
  have g2 : 0 < bN.natAbs.gcd A := Nat.gcd_pos_of_pos_right _ hA0
  have ka : aN.natAbs < 18446744073709551616 := Nat.lt_of_le_of_lt (natAbs_le h1) (by decide)
  have kb : bN.natAbs < 18446744073709551616 := Nat.lt_of_le_of_lt (natAbs_le h3) (by decide)
  have l1 : aN.natAbs / aN.natAbs.gcd B < 18446744073709551616 := Nat.lt_of_le_of_lt (Nat.div_le_self _ _) ka
  have l2 : bN.natAbs / bN.natAbs.gcd A < 18446744073709551616 := Nat.lt_of_le_of_lt (Nat.div_le_self _ _) kb
  have l3 : A / bN.natAbs.gcd A < 18446744073709551616 := Nat.lt_of_le_of_lt (Nat.div_le_self _ _) (lt64 hA)
  have l4 : B / aN.natAbs.gcd B < 18446744073709551616 := Nat.lt_of_le_of_lt (Nat.div_le_self _ _) (lt64 hB)
  have mp := fun m hm => mul_parts (m := m) ha hb hA0 hB0 hm
  have rA := fun d G => right_ev (TB := TB) aN (A : Int) h1 (in64_nat hA) d G
  have rB := fun d G => right_ev (TB := TB) bN (B : Int) h3 (in64_nat hB) d G
  rw [decide_eq_true hra] at rA
  rw [decide_eq_true hrb] at rB
  have za := fun d G => size_ev (TB := TB) aN h1 d G
  have zb := fun d G => size_ev (TB := TB) bN h3 d G
  have zA := fun d G => size_nat (TB := TB) A hA d G
  have zB := fun d G => size_nat (TB := TB) B hB d G
  have c1 := fun d G => common_ev (TB := TB) aN.natAbs B d G
  have c2 := fun d G => common_ev (TB := TB) bN.natAbs A d G
  have q1 := quo_eq (y := aN.natAbs.gcd B) ka
  have q2 := quo_eq (y := bN.natAbs.gcd A) kb
  have q3 := quo_eq (y := bN.natAbs.gcd A) (lt64 hA)
  have q4 := quo_eq (y := aN.natAbs.gcd B) (lt64 hB)
  have p1 := fun d G => product_ev (TB := TB) _ _ l1 l2 d G
  have p2 := fun d G => product_ev (TB := TB) _ _ l3 l4 d G
  have g10 : ¬ (aN.natAbs.gcd B = 0) := Nat.ne_of_gt g1
  have g20 : ¬ (bN.natAbs.gcd A = 0) := Nat.ne_of_gt g2
  generalize mkRat aN A * mkRat bN B = V at *
  clear ha hb hra hrb l1 l2 l3 l4 g1 g2 hA0 hB0
  generalize aN.natAbs.gcd B = ga at *
  generalize bN.natAbs.gcd A = gb at *
  generalize aN.natAbs = an at *
  generalize bN.natAbs = bn at *
  generalize an / ga = a1 at *
  generalize bn / gb = b1 at *
  generalize A / gb = a2 at *
  generalize B / ga = b2 at *
  generalize a1 * b1 = N at *
  generalize a2 * b2 = D at *
  have hput := fun m h1 h2 d G => put_ev (TB := TB) N D m h1 h2 d G
  have w1 : (!(decide (aN < 0) == decide (bN < 0))) = (decide (aN < 0) != decide (bN < 0)) := rfl
  generalize hx : (decide (aN < 0) != decide (bN < 0)) = x at *
  refine Tel.intro mix Try.func51 rfl (Nat.le_of_ble_eq_true rfl) {} (by kernel_rfl) (by kernel_rfl) ?_
  simp -implicitDefEqProofs [-Int.natCast_ediv, -Int.natCast_emod, -Int.natCast_mul, -Int.natCast_add, Try.results51]
  refine callp (rA _ _) ?_
  simp -implicitDefEqProofs [-Int.natCast_ediv, -Int.natCast_emod, -Int.natCast_mul, -Int.natCast_add, Try.results51]
  refine callp (rB _ _) ?_
  simp -implicitDefEqProofs [-Int.natCast_ediv, -Int.natCast_emod, -Int.natCast_mul, -Int.natCast_add, Try.results51]
  refine callp (za _ _) ?_
  simp -implicitDefEqProofs [-Int.natCast_ediv, -Int.natCast_emod, -Int.natCast_mul, -Int.natCast_add, Try.results51]
  refine callp (zB _ _) ?_
  simp -implicitDefEqProofs [-Int.natCast_ediv, -Int.natCast_emod, -Int.natCast_mul, -Int.natCast_add, Try.results51]
  refine callp (c1 _ _) ?_
  simp -implicitDefEqProofs [-Int.natCast_ediv, -Int.natCast_emod, -Int.natCast_mul, -Int.natCast_add, Try.results51]
  refine callp (zb _ _) ?_
  simp -implicitDefEqProofs [-Int.natCast_ediv, -Int.natCast_emod, -Int.natCast_mul, -Int.natCast_add, Try.results51]
  refine callp (zA _ _) ?_
  simp -implicitDefEqProofs [-Int.natCast_ediv, -Int.natCast_emod, -Int.natCast_mul, -Int.natCast_add, Try.results51]
  refine callp (c2 _ _) ?_
  simp -implicitDefEqProofs [-Int.natCast_ediv, -Int.natCast_emod, -Int.natCast_mul, -Int.natCast_add, Try.results51]
  refine callp (za _ _) ?_
  simp -implicitDefEqProofs [-Int.natCast_ediv, -Int.natCast_emod, -Int.natCast_mul, -Int.natCast_add, Try.results51, g10, q1]
  refine callp (zb _ _) ?_
  simp -implicitDefEqProofs [-Int.natCast_ediv, -Int.natCast_emod, -Int.natCast_mul, -Int.natCast_add, Try.results51, g20, q2]
  refine callp (p1 _ _) ?_
  simp -implicitDefEqProofs [-Int.natCast_ediv, -Int.natCast_emod, -Int.natCast_mul, -Int.natCast_add, Try.results51]
  refine callp (zA _ _) ?_
  simp -implicitDefEqProofs [-Int.natCast_ediv, -Int.natCast_emod, -Int.natCast_mul, -Int.natCast_add, Try.results51, g20, q3]
  refine callp (zB _ _) ?_
  simp -implicitDefEqProofs [-Int.natCast_ediv, -Int.natCast_emod, -Int.natCast_mul, -Int.natCast_add, Try.results51, g10, q4]
  refine callp (p2 _ _) ?_
  by_cases hN : N < 18446744073709551616
  · by_cases hD : D < 18446744073709551616
    · rw [Nat.mod_eq_of_lt hN, Nat.mod_eq_of_lt hD]
      cases x with
      | false =>
        rw [mp false (fun _ _ => rfl)]
        simp -implicitDefEqProofs [-Int.natCast_ediv, -Int.natCast_emod, -Int.natCast_mul, -Int.natCast_add, Try.results51, hN, hD, w1]
        refine callp (hput false hN hD _ _) ?_
        simp -implicitDefEqProofs [-Int.natCast_ediv, -Int.natCast_emod, -Int.natCast_mul, -Int.natCast_add, Try.results51, rG]
      | true =>
        by_cases hz : N = 0
        · rw [mp true (fun _ _ => rfl)]
          have e : put N D true = put N D false := by subst hz; unfold BallQ.put; simp
          rw [e]
          simp -implicitDefEqProofs [-Int.natCast_ediv, -Int.natCast_emod, -Int.natCast_mul, -Int.natCast_add, Try.results51, hN, hD, w1, hz]
          have hput' := hput false hN hD
          rw [hz] at hput'
          refine callp (hput' _ _) ?_
          simp -implicitDefEqProofs [-Int.natCast_ediv, -Int.natCast_emod, -Int.natCast_mul, -Int.natCast_add, Try.results51, rG]
        · rw [mp true (fun _ _ => rfl)]
          simp -implicitDefEqProofs [-Int.natCast_ediv, -Int.natCast_emod, -Int.natCast_mul, -Int.natCast_add, Try.results51, hN, hD, w1, hz]
          refine callp (hput true hN hD _ _) ?_
          simp -implicitDefEqProofs [-Int.natCast_ediv, -Int.natCast_emod, -Int.natCast_mul, -Int.natCast_add, Try.results51, rG]
    · rw [mp x (fun _ _ => rfl), big_put (.inr hD)]
      simp -implicitDefEqProofs [-Int.natCast_ediv, -Int.natCast_emod, -Int.natCast_mul, -Int.natCast_add, Try.results51, hN, hD, rG]
  · rw [mp x (fun _ _ => rfl), big_put (.inl hN)]
    simp -implicitDefEqProofs [-Int.natCast_ediv, -Int.natCast_emod, -Int.natCast_mul, -Int.natCast_add, Try.results51, hN, rG]
theorem mul_ev (aN aD bN bD : Int) (h1 : In64 aN) (h2 : In64 aD) (h3 : In64 bN) (h4 : In64 bD) (d : Nat) (G : Heap) :
    Tel Try.prog TB d 51 [.agg [.p (.int .i64 aN), .p (.int .i64 aD)], .agg [.p (.int .i64 bN), .p (.int .i64 bD)]] G (rG (mulS aN aD bN bD)) G := by
  unfold mulS
  have rA := fun d G => right_ev (TB := TB) aN aD h1 h2 d G
  have rB := fun d G => right_ev (TB := TB) bN bD h3 h4 d G
  by_cases hra : Right aN aD
  · by_cases hrb : Right bN bD
    · rw [if_pos ⟨hra, hrb⟩]
      obtain ⟨A, rfl, hA0, hA1, hAc⟩ := right_nat hra h2
      obtain ⟨B, rfl, hB0, hB1, hBc⟩ := right_nat hrb h4
      have eq0 : q aN (A : Int) * q bN (B : Int) = mkRat aN A * mkRat bN B := by unfold BallQ.q; simp
      rw [eq0]
      exact mul_run h1 h3 hA1 hB1 hA0 hB0 hAc hBc hra hrb d G
    · rw [if_neg (fun h => hrb h.2)]
      rw [decide_eq_true hra] at rA
      rw [decide_eq_false hrb] at rB
      refine Tel.intro mix Try.func51 rfl (Nat.le_of_ble_eq_true rfl) {} (by kernel_rfl) (by kernel_rfl) ?_
      simp -implicitDefEqProofs [Try.results51]
      refine callp (rA _ _) ?_
      simp -implicitDefEqProofs [Try.results51]
      refine callp (rB _ _) ?_
      simp -implicitDefEqProofs [Try.results51, rG]
  · rw [if_neg (fun h => hra h.1)]
    rw [decide_eq_false hra] at rA
    refine Tel.intro mix Try.func51 rfl (Nat.le_of_ble_eq_true rfl) {} (by kernel_rfl) (by kernel_rfl) ?_
    simp -implicitDefEqProofs [Try.results51]
    refine callp (rA _ _) ?_
    simp -implicitDefEqProofs [Try.results51, rG]
end Go.E
end
section
set_option linter.all false
set_option maxRecDepth 100000
namespace Go.E.Ref
open Go Go.Proofs Go.Eng BallBits
open BallQ
variable {TB : Nat → Option Obj}
def Sz (n : Nat) : Prop := (bof n).length ≤ 2000
theorem len_le (L : Nat) {m n : Nat} (h : (bof n).length ≤ L) (hm : m ≤ n) : (bof m).length ≤ L := length_bof_le (Nat.lt_of_le_of_lt hm (lt_of_length h))
theorem Sz.le {m n : Nat} (h : Sz n) (hm : m ≤ n) : Sz m := len_le 2000 h hm
theorem sz64 {n : Nat} (h : n < 18446744073709551616) : Sz n := Nat.le_trans (length_bof_le (m := 64) h) (by omega)
abbrev nG (n : Nat) : GV := bG (bof n)
theorem add_n {a b : Nat} (ha : Sz a) (hb : Sz b) (d : Nat) (G : Heap) : Tel Try.prog TB d 45 [nG a, nG b] G (nG (a + b)) G := by
  have := add_ev (TB := TB) (bof a) (bof b) (by unfold Sz at ha; omega) (by unfold Sz at hb; omega) d G
  rwa [nv_bof, nv_bof] at this
theorem divide_n {a b : Nat} (ha : Sz a) (hb : Sz b) (h : 0 < b) (d : Nat) (G : Heap) : Tel Try.prog TB d 43 [nG a, nG b] G (.tup [nG (a / b), nG (a % b)]) G := by
  have := divide_ev (TB := TB) (bof a) b h (by unfold Sz at ha; omega) (by unfold Sz at hb; omega) d G
  rwa [nv_bof] at this
theorem rsize_ev (a : Int) (h : In64 a) (d : Nat) (G : Heap) : Tel Try.prog TB d 27 [.p (.int .i64 a)] G (nG a.natAbs) G := by
  obtain ⟨h0, h1⟩ := h
  refine Tel.intro mix Try.func27 rfl (Nat.le_of_ble_eq_true rfl) {} (by kernel_rfl) (by kernel_rfl) ?_
  by_cases h : a < 0
  · have e1 : IntKind.i64.wrap (a + 1) = a + 1 := by rw [wi64]; omega
    have e2 : IntKind.i64.wrap (-(a + 1)) = -(a + 1) := by rw [wi64]; omega
    have e3 : IntKind.u64.wrap (-(a + 1)) = ((a.natAbs - 1 : Nat) : Int) := by rw [wu64]; omega
    have hadd := fun d G => add_n (TB := TB) (a := a.natAbs - 1) (b := 1) (sz64 (by omega)) (sz64 (by omega)) d G
    rw [show a.natAbs - 1 + 1 = a.natAbs by omega] at hadd
    have o1 := fun d G => of_ev (TB := TB) (a.natAbs - 1) (by omega) d G
    have o2 := fun d G => of_ev (TB := TB) 1 (by omega) d G
    generalize a.natAbs - 1 = n1 at *
    simp -implicitDefEqProofs [-Int.natCast_ediv, -Int.natCast_emod, -Int.natCast_mul, -Int.natCast_add, Try.results27, h, e1, e2, e3]
    refine callp (o1 _ _) ?_
    simp -implicitDefEqProofs [-Int.natCast_ediv, -Int.natCast_emod, -Int.natCast_mul, -Int.natCast_add, Try.results27]
    refine callp (o2 _ _) ?_
    simp -implicitDefEqProofs [-Int.natCast_ediv, -Int.natCast_emod, -Int.natCast_mul, -Int.natCast_add, Try.results27]
    refine callp (hadd _ _) ?_
    simp -implicitDefEqProofs [-Int.natCast_ediv, -Int.natCast_emod, -Int.natCast_mul, -Int.natCast_add, Try.results27]
  · have e3 : IntKind.u64.wrap a = ((a.natAbs : Nat) : Int) := by rw [wu64]; omega
    simp -implicitDefEqProofs [-Int.natCast_ediv, -Int.natCast_emod, -Int.natCast_mul, -Int.natCast_add, Try.results27, h, e3]
    refine callp (of_ev a.natAbs (by omega) _ _) ?_
    simp -implicitDefEqProofs [-Int.natCast_ediv, -Int.natCast_emod, -Int.natCast_mul, -Int.natCast_add, Try.results27]
theorem rcommon_ev (a b : Nat) (ha : Sz a) (hb : Sz b) (d : Nat) (G : Heap) : Tel Try.prog TB d 42 [nG a, nG b] G (nG (Nat.gcd a b)) G := by
  refine Tel.intro mix Try.func42 rfl (Nat.le_of_ble_eq_true rfl) {} (by kernel_rfl) (by kernel_rfl) ?_
  simp -implicitDefEqProofs [-Int.natCast_ediv, -Int.natCast_emod, -Int.natCast_mul, -Int.natCast_add, Try.results42]
  refine gwp_loop (fun k s => ∃ x : Nat, s.F 0 = nG x ∧ s.F 1 = nG k ∧ Sz x ∧ Sz k ∧ x.gcd k = a.gcd b ∧ s.G = cut d G) (m := b) ⟨a, by simp -implicitDefEqProofs [-Int.natCast_ediv, -Int.natCast_emod, -Int.natCast_mul, -Int.natCast_add, ], by simp -implicitDefEqProofs [-Int.natCast_ediv, -Int.natCast_emod, -Int.natCast_mul, -Int.natCast_add, ], ha, hb, rfl, rfl⟩ ?_
  rintro k s ⟨x, h0, h1, hx, hk, hg, hG⟩
  by_cases h : k = 0
  · subst h
    rw [Nat.gcd_zero_right] at hg
    subst hg
    simp -implicitDefEqProofs [-Int.natCast_ediv, -Int.natCast_emod, -Int.natCast_mul, -Int.natCast_add, h0, h1, hG, bof_zero]
  · have hp : 0 < k := by omega
    have hl : 0 < (bof k).length := by
      rcases Nat.eq_zero_or_pos (bof k).length with e | e
      · exact absurd (bof_eq_nil.1 (List.length_eq_zero_iff.1 e)) h
      · exact e
    have hlt := Nat.mod_lt x hp
    simp -implicitDefEqProofs [-Int.natCast_ediv, -Int.natCast_emod, -Int.natCast_mul, -Int.natCast_add, h0, h1, hl]
    refine callp (divide_n hx hk hp _ _) ?_ (hf := by simp [hG])
    simp -implicitDefEqProofs [-Int.natCast_ediv, -Int.natCast_emod, -Int.natCast_mul, -Int.natCast_add, h0, h1, hl, hG]
    exact ⟨x % k, hlt, k, rfl, rfl, hk, hk.le (Nat.le_of_lt hlt), by rw [← hg, Nat.gcd_comm k (x % k), ← Nat.gcd_rec, Nat.gcd_comm]⟩
theorem value_ev (n : Nat) (hs : Sz n) (d : Nat) (G : Heap) : Tel Try.prog TB d 44 [nG n] G (.tup [.p (.int .i64 (if n < 9223372036854775808 then (n : Int) else 0)), .p (.bool (decide (n < 9223372036854775808)))]) G := by
  unfold nG
  refine Tel.intro mix Try.func44 rfl (Nat.le_of_ble_eq_true rfl) {} (by kernel_rfl) (by kernel_rfl) ?_
  have h63 : (bof n).length ≤ 63 ↔ n < 9223372036854775808 := length_bof n 63
  by_cases h : n < 9223372036854775808
  · have hl : (bof n).length ≤ 63 := h63.2 h
    have hl' : ¬ ((63 : Int) < ((bof n).length : Int)) := by omega
    have w0 : IntKind.i64.wrap (((bof n).length : Int) - 1) = ((bof n).length : Int) - 1 := by rw [wi64]; omega
    have hn : nv (bof n) = n := nv_bof n
    generalize bof n = l at *
    simp -implicitDefEqProofs [-Int.natCast_ediv, -Int.natCast_emod, -Int.natCast_mul, -Int.natCast_add, Try.results44, hl', w0, h]
    refine gwp_loop (fun k s => s.F 0 = bG l ∧ s.F 5 = .p (.int .i64 ((k : Int) - 1)) ∧ s.F 4 = .p (.int .i64 ((nv (l.drop k) : Nat) : Int)) ∧ s.G = cut d G ∧ k ≤ l.length) (m := l.length) ⟨by simp -implicitDefEqProofs [-Int.natCast_ediv, -Int.natCast_emod, -Int.natCast_mul, -Int.natCast_add, ], by simp -implicitDefEqProofs [-Int.natCast_ediv, -Int.natCast_emod, -Int.natCast_mul, -Int.natCast_add, ], by simp -implicitDefEqProofs [-Int.natCast_ediv, -Int.natCast_emod, -Int.natCast_mul, -Int.natCast_add, nv], by simp -implicitDefEqProofs [-Int.natCast_ediv, -Int.natCast_emod, -Int.natCast_mul, -Int.natCast_add, ], Nat.le_refl _⟩ ?_
    rintro k s ⟨h0, h5, h4, hG, hk⟩
    cases k with
    | zero =>
      rw [List.drop_zero, hn] at h4
      simp -implicitDefEqProofs [-Int.natCast_ediv, -Int.natCast_emod, -Int.natCast_mul, -Int.natCast_add, h0, h5, h4, hG]
    | succ k =>
      have e1 : (((k + 1 : Nat) : Int) - 1) = (k : Int) := by omega
      rw [e1] at h5
      have w2 : IntKind.i64.wrap ((k : Int) - 1) = (k : Int) - 1 := by rw [wi64]; omega
      have i1 := bit_at l k (by omega)
      have hb : nv (l.drop k) < 9223372036854775808 := by
        have h1 := nv_lt (l.drop k)
        have h2 : 2 ^ (l.drop k).length ≤ 2 ^ 63 := Nat.pow_le_pow_right (by omega) (by simp; omega)
        omega
      have nd : nv (l.drop k) = (bitAt l k).toNat + 2 * nv (l.drop (k + 1)) := nv_drop l k (by omega)
      rw [nd] at hb
      cases hB : bitAt l k <;> rw [hB] at i1 <;> rw [hB] at nd hb <;> simp only [Bool.toNat_false, Bool.toNat_true] at nd hb
      · have w3 : IntKind.i64.wrap (2 * ((nv (l.drop (k + 1)) : Nat) : Int)) = ((nv (l.drop k) : Nat) : Int) := by rw [nd, wi64]; omega
        simp -implicitDefEqProofs [-Int.natCast_ediv, -Int.natCast_emod, -Int.natCast_mul, -Int.natCast_add, h0, h5, h4, hG, i1, w2, w3, -List.getElem?_map]
        exact ⟨k, Nat.lt_succ_self k, rfl, rfl, by omega⟩
      · have w3 : IntKind.i64.wrap (2 * ((nv (l.drop (k + 1)) : Nat) : Int)) = 2 * ((nv (l.drop (k + 1)) : Nat) : Int) := by rw [wi64]; omega
        have w4 : IntKind.i64.wrap (2 * ((nv (l.drop (k + 1)) : Nat) : Int) + 1) = ((nv (l.drop k) : Nat) : Int) := by rw [nd, wi64]; omega
        simp -implicitDefEqProofs [-Int.natCast_ediv, -Int.natCast_emod, -Int.natCast_mul, -Int.natCast_add, h0, h5, h4, hG, i1, w2, w3, w4, -List.getElem?_map]
        exact ⟨k, Nat.lt_succ_self k, rfl, rfl, by omega⟩
  · have hl' : (63 : Int) < ((bof n).length : Int) := by
      have : ¬ (bof n).length ≤ 63 := fun hh => h (h63.1 hh)
      omega
    simp -implicitDefEqProofs [-Int.natCast_ediv, -Int.natCast_emod, -Int.natCast_mul, -Int.natCast_add, Try.results44, hl', h]
end Go.E.Ref
end
section
set_option linter.all false
set_option maxRecDepth 100000
namespace Go.E.Ref
open Go Go.Proofs Go.Eng BallBits
open BallQ
variable {TB : Nat → Option Obj}
abbrev fG (n d : Nat) (m : Bool) : GV := .agg [nG n, nG d, .p (.bool m)]
theorem to_ev (n k : Nat) (m : Bool) (hn : Sz n) (hk : Sz k) (h : 0 < k) (d : Nat) (G : Heap) : Tel Try.prog TB d 26 [fG n k m] G (rG (put (n / Nat.gcd n k) (k / Nat.gcd n k) m)) G := by
  have hg : 0 < Nat.gcd n k := Nat.gcd_pos_of_pos_right _ h
  have hgs : Sz (Nat.gcd n k) := hk.le (Nat.gcd_le_right _ h)
  have c0 := fun d G => rcommon_ev (TB := TB) n k hn hk d G
  have d1 := fun d G => divide_n (TB := TB) hn hgs hg d G
  have d2 := fun d G => divide_n (TB := TB) hk hgs hg d G
  have v1 := fun d G => value_ev (TB := TB) (n / Nat.gcd n k) (hn.le (Nat.div_le_self _ _)) d G
  have v2 := fun d G => value_ev (TB := TB) (k / Nat.gcd n k) (hk.le (Nat.div_le_self _ _)) d G
  generalize n / Nat.gcd n k = x at *
  generalize k / Nat.gcd n k = y at *
  generalize n % Nat.gcd n k = x' at *
  generalize k % Nat.gcd n k = y' at *
  generalize Nat.gcd n k = g at *
  have walk : ∀ (p : Prop), p → p := fun _ h => h
  refine Tel.intro mix Try.func26 rfl (Nat.le_of_ble_eq_true rfl) {} (by kernel_rfl) (by kernel_rfl) ?_
  simp -implicitDefEqProofs [-Int.natCast_ediv, -Int.natCast_emod, -Int.natCast_mul, -Int.natCast_add, Try.results26]
  refine callp (c0 _ _) ?_
  simp -implicitDefEqProofs [-Int.natCast_ediv, -Int.natCast_emod, -Int.natCast_mul, -Int.natCast_add, Try.results26]
  refine callp (d1 _ _) ?_
  simp -implicitDefEqProofs [-Int.natCast_ediv, -Int.natCast_emod, -Int.natCast_mul, -Int.natCast_add, Try.results26]
  refine callp (d2 _ _) ?_
  simp -implicitDefEqProofs [-Int.natCast_ediv, -Int.natCast_emod, -Int.natCast_mul, -Int.natCast_add, Try.results26]
  refine callp (v1 _ _) ?_
  simp -implicitDefEqProofs [-Int.natCast_ediv, -Int.natCast_emod, -Int.natCast_mul, -Int.natCast_add, Try.results26]
  refine callp (v2 _ _) ?_
  unfold BallQ.put
  by_cases hx : x < 9223372036854775808
  · by_cases hy : y < 9223372036854775808
    · have w1 : IntKind.i64.wrap (-(x : Int)) = -(x : Int) := by rw [wi64]; omega
      cases m
      · simp -implicitDefEqProofs [-Int.natCast_ediv, -Int.natCast_emod, -Int.natCast_mul, -Int.natCast_add, Try.results26, hx, hy, rG]
      · simp -implicitDefEqProofs [-Int.natCast_ediv, -Int.natCast_emod, -Int.natCast_mul, -Int.natCast_add, Try.results26, hx, hy, rG, w1]
    · simp -implicitDefEqProofs [-Int.natCast_ediv, -Int.natCast_emod, -Int.natCast_mul, -Int.natCast_add, Try.results26, hx, hy, rG]
  · simp -implicitDefEqProofs [-Int.natCast_ediv, -Int.natCast_emod, -Int.natCast_mul, -Int.natCast_add, Try.results26, hx, rG]
end Go.E.Ref
end
section
set_option linter.all false
set_option maxRecDepth 100000
namespace Go.E
def newS (n k : Int) : Int × Int × Int := if k = 0 then (0, 0, 2) else BallQ.put (n.natAbs / Nat.gcd n.natAbs k.natAbs) (k.natAbs / Nat.gcd n.natAbs k.natAbs) (!(decide (n < 0) == decide (k < 0)))
end Go.E
namespace Go.E.Ref
open Go Go.Proofs Go.Eng BallBits
open BallQ
variable {TB : Nat → Option Obj}
theorem sz_abs' {a : Int} (h : In64 a) : Sz a.natAbs := by obtain ⟨a, b⟩ := h; exact sz64 (by omega)
theorem new_ev (n k : Int) (hn : In64 n) (hk : In64 k) (d : Nat) (G : Heap) : Tel Try.prog TB d 14 [.p (.int .i64 n), .p (.int .i64 k)] G (rG (newS n k)) G := by
  unfold newS
  by_cases hz : k = 0
  · rw [if_pos hz]
    refine Tel.intro mix Try.func14 rfl (Nat.le_of_ble_eq_true rfl) {} (by kernel_rfl) (by kernel_rfl) ?_
    simp -implicitDefEqProofs [-Int.natCast_ediv, -Int.natCast_emod, -Int.natCast_mul, -Int.natCast_add, Try.results14, hz, rG]
  · rw [if_neg hz]
    have t1 := fun d G => rsize_ev (TB := TB) n hn d G
    have t2 := fun d G => rsize_ev (TB := TB) k hk d G
    have tt := fun d G => to_ev (TB := TB) n.natAbs k.natAbs (!(decide (n < 0) == decide (k < 0))) (sz_abs' hn) (sz_abs' hk) (by omega) d G
    generalize n.natAbs = N at *
    generalize hM : (!(decide (n < 0) == decide (k < 0))) = M at *
    generalize k.natAbs = K at *
    generalize BallQ.put (N / Nat.gcd N K) (K / Nat.gcd N K) M = out at *
    obtain ⟨o1, o2, o3⟩ := out
    refine Tel.intro mix Try.func14 rfl (Nat.le_of_ble_eq_true rfl) {} (by kernel_rfl) (by kernel_rfl) ?_
    simp -implicitDefEqProofs [-Int.natCast_ediv, -Int.natCast_emod, -Int.natCast_mul, -Int.natCast_add, Try.results14, hz]
    refine callp (t1 _ _) ?_
    simp -implicitDefEqProofs [-Int.natCast_ediv, -Int.natCast_emod, -Int.natCast_mul, -Int.natCast_add, Try.results14, hz]
    refine callp (t2 _ _) ?_
    simp -implicitDefEqProofs [-Int.natCast_ediv, -Int.natCast_emod, -Int.natCast_mul, -Int.natCast_add, Try.results14, hz, hM]
    refine callp (tt _ _) ?_
    simp -implicitDefEqProofs [-Int.natCast_ediv, -Int.natCast_emod, -Int.natCast_mul, -Int.natCast_add, Try.results14, rG]
end Go.E.Ref
end
section
set_option linter.all false
set_option maxRecDepth 100000
namespace Go.E
open Go Go.Proofs Go.Eng
variable {TB : Nat → Option Obj}
theorem loop4 {P : Program} {C : CR} {A : Ann} {d : Nat} {c : Code} {Q : GE → Eng.St → Prop} {s : Eng.St} (h : loopW d (gwp P C A d c) (A.clean (firstId c)) Q 4 s) : gwp P C A d (.loop c) Q s := ⟨4, h⟩
theorem loopS {d n : Nat} {body : (GE → Eng.St → Prop) → Eng.St → Prop} {ts : List Nat} {Q : GE → Eng.St → Prop} {s : Eng.St} : loopW d body ts Q (n + 1) s = body (GE.then (loopW d body ts Q n) Q) (clean d ts s) := rfl
theorem bmul_ev (d : Nat) (G : Heap) : Tel Try.prog TB d 101 [.p (.int .u64 1), .p (.int .u64 8)] G (.tup [.p (.int .u64 0), .p (.int .u64 8)]) G := by
  have m := fun d G => mul64_ev (TB := TB) 1 8 (by decide) (by decide) d G
  refine Tel.intro mix Try.func101 rfl (Nat.le_of_ble_eq_true rfl) {} (by kernel_rfl) (by kernel_rfl) ?_
  simp -implicitDefEqProofs [-Int.natCast_ediv, -Int.natCast_emod, -Int.natCast_mul, -Int.natCast_add, Try.results101]
  refine callp (m _ _) ?_
  simp -implicitDefEqProofs [-Int.natCast_ediv, -Int.natCast_emod, -Int.natCast_mul, -Int.natCast_add, Try.results101]
theorem repeat_ev (x y : PV) (d : Nat) (G : Heap) : Tel Try.prog TB d 71 [.p (.sl [[x, y]]), .p (.int .i64 8)] G (.oar (List.replicate 8 [x, y]) 2) G := by
  refine Tel.intro mix Try.func71 rfl (Nat.le_of_ble_eq_true rfl) {arrAt := fun t => t == 30} (by kernel_rfl) (by kernel_rfl) ?_
  simp -implicitDefEqProofs [-Int.natCast_ediv, -Int.natCast_emod, -Int.natCast_mul, -Int.natCast_add, Try.results71]
  refine callp (bmul_ev _ _) ?_
  have w8 : IntKind.i64.wrap 8 = 8 := by decide
  simp -implicitDefEqProofs [-Int.natCast_ediv, -Int.natCast_emod, -Int.natCast_mul, -Int.natCast_add, Try.results71, gMake, w8]
  simp -implicitDefEqProofs [-Int.natCast_ediv, -Int.natCast_emod, -Int.natCast_mul, -Int.natCast_add, Try.results71, gCopy, partOf, srcOf, sizes, List.replicate]
  refine loop4 ?_
  have w1 : IntKind.i64.wrap 2 = 2 := by decide
  have w2 : IntKind.i64.wrap 4 = 4 := by decide
  have w4 : IntKind.i64.wrap 8 = 8 := by decide
  rw [loopS]
  simp -implicitDefEqProofs [-Int.natCast_ediv, -Int.natCast_emod, -Int.natCast_mul, -Int.natCast_add, Try.results71, gMake, gCopy, partOf, srcOf, sizes, List.replicate, clean_nil, firstId, w1, w2, w4, w8, loopS]
end Go.E
end
section
set_option linter.all false
set_option maxRecDepth 100000
namespace Go.E
open BallQ
def invN (bN bD : Int) : Int := if bN < 0 then -bD else bD
def divS (aN aD bN bD : Int) : Int × Int × Int := if Right aN aD ∧ Right bN bD ∧ bN ≠ 0 then mulS aN aD (invN bN bD) (bN.natAbs : Int) else (0, 0, 2)
theorem inv_right {bN bD : Int} (h : Right bN bD) (hn : In64 bN) (hd : In64 bD) (h0 : bN ≠ 0) : Right (invN bN bD) (bN.natAbs : Int) ∧ In64 (invN bN bD) ∧ In64 (bN.natAbs : Int) ∧ (invN bN bD).natAbs = bD.natAbs ∧ decide (invN bN bD < 0) = decide (bN < 0) := by
  obtain ⟨r1, r2, r3⟩ := h
  obtain ⟨n1, n2⟩ := hn
  obtain ⟨d1, d2⟩ := hd
  have e1 : (invN bN bD).natAbs = bD.natAbs := by unfold invN; split <;> omega
  refine ⟨⟨by omega, by unfold invN; split <;> omega, ?_⟩, ?_, by unfold In64; omega, e1, ?_⟩
  · rw [e1, Int.natAbs_natCast, Nat.gcd_comm]; exact r3
  · unfold In64 invN; split <;> omega
  · apply decide_eq_decide.2
    unfold invN
    split <;> omega
end Go.E
end
