-- Words and walks, cut to what this law uses (wip/pack.py).
import Derived.Laws.BitsLemmas
namespace BallQ
def fits (x : Rat) : Prop := x.num.natAbs < 9223372036854775808 ∧ x.den < 9223372036854775808
instance (x : Rat) : Decidable (fits x) := by unfold fits; infer_instance
def out (x : Rat) : Int × Int × Int := if fits x then (x.num, (x.den : Int), 0) else (0, 0, 3)
def put (n d : Nat) (m : Bool) : Int × Int × Int := if n < 9223372036854775808 ∧ d < 9223372036854775808 then ((if m then -(n : Int) else (n : Int)), (d : Int), 0) else (0, 0, 3)
def In64 (a : Int) : Prop := -9223372036854775808 ≤ a ∧ a ≤ 9223372036854775807
def Right (n d : Int) : Prop := 0 < d ∧ n ≠ -9223372036854775808 ∧ Nat.gcd n.natAbs d.natAbs = 1
instance (n d : Int) : Decidable (Right n d) := by unfold Right; infer_instance
def q (n d : Int) : Rat := mkRat n d.toNat
theorem zhn {n d : Int} (h : Right n d) (hn : In64 n) (hd : In64 d) : (q n d).num = n ∧ ((q n d).den : Int) = d ∧ fits (q n d) := by
  obtain ⟨h0, h1, h2⟩ := h
  have hdn : d.toNat ≠ 0 := by omega
  have hc : n.natAbs.Coprime d.toNat := by
    have : d.toNat = d.natAbs := by omega
    rw [this]; exact h2
  have e := Rat.mk_eq_mkRat n d.toNat hdn hc
  unfold q
  rw [← e]
  obtain ⟨n0, n1⟩ := hn
  obtain ⟨d0, d1⟩ := hd
  refine ⟨rfl, by show (d.toNat : Int) = d; omega, ?_⟩
  unfold fits
  show n.natAbs < _ ∧ d.toNat < _
  omega
theorem zfo {x : Rat} (h : fits x) : Right x.num x.den ∧ In64 x.num ∧ In64 (x.den : Int) := by
  obtain ⟨h0, h1⟩ := h
  have hp := x.den_pos
  refine ⟨⟨by omega, by omega, ?_⟩, ⟨by omega, by omega⟩, ⟨by omega, by omega⟩⟩
  have := x.reduced
  exact this
theorem q_self (x : Rat) : q x.num x.den = x := by
  unfold q
  rw [Int.toNat_natCast, Rat.mkRat_self]
theorem zeL (N : Int) (D : Nat) (h : D ≠ 0) (c : N.natAbs.gcd D = 1) (m : Bool) (hm : N ≠ 0 → m = decide (N < 0)) : out (mkRat N D) = put N.natAbs D m := by
  rw [← Rat.mk_eq_mkRat N D h c]
  have e : (if m then -(N.natAbs : Int) else (N.natAbs : Int)) = N := by
    by_cases h0 : N = 0
    · subst h0; simp
    · rw [hm h0]
      by_cases hn : N < 0
      · simp only [hn, decide_true, if_true]; omega
      · simp only [hn, decide_false, Bool.false_eq_true, if_false]; omega
  unfold out put fits
  dsimp only
  rw [e]
theorem zho (n : Int) (d : Nat) : mkRat n d = (n : Rat) / (d : Rat) := Rat.mkRat_eq_div n d
theorem zec {d : Nat} (h : d ≠ 0) : (d : Rat) ≠ 0 := by exact_mod_cast h
theorem zgb {a b g : Nat} (hg : 0 < g) (e : a.gcd b = g) : (a / g).gcd (b / g) = 1 := by
  subst e; exact Nat.coprime_div_gcd_div_gcd hg
theorem zea {a b c d : Nat} (h : a.gcd b = 1) (hc : c ∣ a) (hd : d ∣ b) : c.gcd d = 1 := Nat.Coprime.coprime_dvd_left hc (Nat.Coprime.coprime_dvd_right hd h)
theorem zhv {a b c d : Nat} (h1 : a.gcd b = 1) (h2 : c.gcd d = 1) (hb : 0 < b) (hd : 0 < d) :
    ((a / a.gcd d) * (c / c.gcd b)).gcd ((b / c.gcd b) * (d / a.gcd d)) = 1 := by
  have g1 : 0 < a.gcd d := Nat.gcd_pos_of_pos_right _ hd
  have g2 : 0 < c.gcd b := Nat.gcd_pos_of_pos_right _ hb
  have k1 := Nat.div_dvd_of_dvd (Nat.gcd_dvd_left a d)
  have k2 := Nat.div_dvd_of_dvd (Nat.gcd_dvd_right a d)
  have k3 := Nat.div_dvd_of_dvd (Nat.gcd_dvd_left c b)
  have k4 := Nat.div_dvd_of_dvd (Nat.gcd_dvd_right c b)
  apply Nat.Coprime.mul_left
  · apply Nat.Coprime.mul_right
    · exact zea h1 k1 k4
    · exact zgb g1 rfl
  · apply Nat.Coprime.mul_right
    · exact zgb g2 rfl
    · exact zea h2 k3 k2
theorem zeQ {p : Nat} {x : Int} (h : (p : Int) ∣ x) : p ∣ x.natAbs := by
  have := Int.natAbs_dvd_natAbs.2 h
  simpa using this
theorem zgc {a b x : Int} {A B : Nat} (ha : a.natAbs.gcd A = 1) (hB : B.gcd A = 1) (hx : x = a * B + b * A) : x.natAbs.gcd A = 1 := by
  have hp : x.natAbs.gcd A ∣ A := Nat.gcd_dvd_right _ _
  have hq : x.natAbs.gcd A ∣ x.natAbs := Nat.gcd_dvd_left _ _
  have h1 : ((x.natAbs.gcd A : Nat) : Int) ∣ x := Int.dvd_natAbs.1 (Int.natCast_dvd_natCast.2 hq)
  have h2 : ((x.natAbs.gcd A : Nat) : Int) ∣ (A : Int) := Int.natCast_dvd_natCast.2 hp
  have h3 : ((x.natAbs.gcd A : Nat) : Int) ∣ a * B := by
    have e : a * B = x - b * A := by rw [hx]; omega
    rw [e]
    exact Int.dvd_sub h1 (Int.dvd_mul_of_dvd_right h2)
  have h4 : x.natAbs.gcd A ∣ a.natAbs * B := by
    have := zeQ h3
    rwa [Int.natAbs_mul, Int.natAbs_natCast] at this
  have h5 : (a.natAbs * B).gcd A = 1 := Nat.Coprime.mul_left ha hB
  have := Nat.dvd_gcd h4 hp
  rw [h5] at this
  exact Nat.dvd_one.1 this
theorem fsum {a b A B G p t : Rat} (hA : A ≠ 0) (hB : B ≠ 0) (hG : G ≠ 0) (hp : p ≠ 0) (e : a * B + b * A = p * t) : a / (p * G * A) + b / (p * G * B) = t / (A * (G * B)) := by
  have h1 : p * G * A ≠ 0 := by simp [Rat.mul_eq_zero, *]
  have h2 : p * G * B ≠ 0 := by simp [Rat.mul_eq_zero, *]
  have h3 : A * (G * B) ≠ 0 := by simp [Rat.mul_eq_zero, *]
  have k : (a / (p * G * A) + b / (p * G * B)) * (p * (A * (G * B))) = a * B + b * A := by
    have e1 : a / (p * G * A) * (p * (A * (G * B))) = a * B := by
      have : p * (A * (G * B)) = p * G * A * B := by grind
      rw [this, ← Rat.mul_assoc, Rat.div_mul_cancel h1]
    have e2 : b / (p * G * B) * (p * (A * (G * B))) = b * A := by
      have : p * (A * (G * B)) = p * G * B * A := by grind
      rw [this, ← Rat.mul_assoc, Rat.div_mul_cancel h2]
    rw [Rat.add_mul, e1, e2]
  have k2 : t / (A * (G * B)) * (p * (A * (G * B))) = p * t := by
    have : p * (A * (G * B)) = (A * (G * B)) * p := by grind
    rw [this, ← Rat.mul_assoc, Rat.div_mul_cancel h3, Rat.mul_comm]
  have k3 : p * (A * (G * B)) ≠ 0 := by simp only [ne_eq, Rat.mul_eq_zero, not_or]; exact ⟨hp, hA, hG, hB⟩
  have k4 : (a / (p * G * A) + b / (p * G * B)) * (p * (A * (G * B))) = t / (A * (G * B)) * (p * (A * (G * B))) := by rw [k, k2, e]
  generalize a / (p * G * A) + b / (p * G * B) = u at *
  generalize t / (A * (G * B)) = v at *
  generalize p * (A * (G * B)) = w at *
  grind
theorem zgl {aN bN : Int} {aD bD : Nat} (ha : aN.natAbs.gcd aD = 1) (hb : bN.natAbs.gcd bD = 1) (h0 : 0 < aD) (h1 : 0 < bD) (n : Int)
    (hn : n = aN * ((bD / aD.gcd bD : Nat) : Int) + bN * ((aD / aD.gcd bD : Nat) : Int)) :
    ∃ t : Int, n = ((aD.gcd bD).gcd n.natAbs : Nat) * t ∧ mkRat aN aD + mkRat bN bD = mkRat t (aD / aD.gcd bD * (bD / (aD.gcd bD).gcd n.natAbs)) ∧ t.natAbs.gcd (aD / aD.gcd bD * (bD / (aD.gcd bD).gcd n.natAbs)) = 1 ∧ aD / aD.gcd bD * (bD / (aD.gcd bD).gcd n.natAbs) ≠ 0 := by
  have hg : 0 < aD.gcd bD := Nat.gcd_pos_of_pos_left _ h0
  obtain ⟨A, hA⟩ := Nat.gcd_dvd_left aD bD
  obtain ⟨B, hB⟩ := Nat.gcd_dvd_right aD bD
  have eA : aD / aD.gcd bD = A := by
    conv => lhs; lhs; rw [hA]
    exact Nat.mul_div_cancel_left _ hg
  have eB : bD / aD.gcd bD = B := by
    conv => lhs; lhs; rw [hB]
    exact Nat.mul_div_cancel_left _ hg
  have hAB : A.gcd B = 1 := by
    have := Nat.coprime_div_gcd_div_gcd hg
    rw [eA, eB] at this; exact this
  rw [eA, eB] at hn
  rw [eA]
  generalize aD.gcd bD = g at *
  have hp : 0 < g.gcd n.natAbs := Nat.gcd_pos_of_pos_left _ hg
  obtain ⟨G, hG⟩ := Nat.gcd_dvd_left g n.natAbs
  have hpn : ((g.gcd n.natAbs : Nat) : Int) ∣ n := Int.dvd_natAbs.1 (Int.natCast_dvd_natCast.2 (Nat.gcd_dvd_right g n.natAbs))
  obtain ⟨t, ht⟩ := hpn
  have hA0 : 0 < A := by rcases Nat.eq_zero_or_pos A with h | h; · subst h; simp at hA; omega
                         · exact h
  have hB0 : 0 < B := by rcases Nat.eq_zero_or_pos B with h | h; · subst h; simp at hB; omega
                         · exact h
  have hG0 : 0 < G := by rcases Nat.eq_zero_or_pos G with h | h; · subst h; simp at hG; omega
                         · exact h
  have c1 : n.natAbs.gcd A = 1 := zgc (a := aN) (b := bN) (B := B) (Nat.Coprime.coprime_dvd_right ⟨g, by rw [hA, Nat.mul_comm]⟩ ha) (by rw [Nat.gcd_comm]; exact hAB) hn
  have c2 : n.natAbs.gcd B = 1 := zgc (a := bN) (b := aN) (B := A) (Nat.Coprime.coprime_dvd_right ⟨g, by rw [hB, Nat.mul_comm]⟩ hb) hAB (by rw [hn]; omega)
  have c3 : G.gcd t.natAbs = 1 := by
    have := Nat.coprime_div_gcd_div_gcd hp
    have e1 : g / g.gcd n.natAbs = G := by
      conv => lhs; lhs; rw [hG]
      exact Nat.mul_div_cancel_left _ hp
    have e2 : n.natAbs / g.gcd n.natAbs = t.natAbs := by
      have : n.natAbs = g.gcd n.natAbs * t.natAbs := by
        conv => lhs; rw [ht]
        rw [Int.natAbs_mul, Int.natAbs_natCast]
      conv => lhs; lhs; rw [this]
      exact Nat.mul_div_cancel_left _ hp
    rw [e1, e2] at this; exact this
  have ht2 : t.natAbs ∣ n.natAbs := by
    refine ⟨g.gcd n.natAbs, ?_⟩
    conv => lhs; rw [ht]
    rw [Int.natAbs_mul, Int.natAbs_natCast, Nat.mul_comm]
  have eD : bD / g.gcd n.natAbs = G * B := by
    have : bD = g.gcd n.natAbs * (G * B) := by rw [← Nat.mul_assoc, ← hG]; exact hB
    conv => lhs; lhs; rw [this]
    exact Nat.mul_div_cancel_left _ hp
  refine ⟨t, ht, ?_, ?_, ?_⟩
  · rw [eD, zho, zho, zho, hA, hB]
    generalize g.gcd n.natAbs = p at *
    have nA := zec (d := A) (by omega)
    have nB := zec (d := B) (by omega)
    have nG := zec (d := G) (by omega)
    have np := zec (d := p) (by omega)
    have e : (aN : Rat) * (B : Rat) + (bN : Rat) * (A : Rat) = (p : Rat) * (t : Rat) := by
      have : ((aN * (B : Int) + bN * (A : Int) : Int) : Rat) = (((p : Int) * t : Int) : Rat) := by rw [← hn, ← ht]
      simp only [Rat.intCast_add, Rat.intCast_mul, Rat.intCast_natCast] at this
      exact this
    subst hG
    simp only [Rat.natCast_mul]
    exact fsum nA nB nG np e
  · rw [eD]
    apply Nat.Coprime.mul_right
    · exact zea c1 ht2 (Nat.dvd_refl _)
    · apply Nat.Coprime.mul_right
      · rw [Nat.gcd_comm] at c3; exact c3
      · exact zea c2 ht2 (Nat.dvd_refl _)
  · rw [eD]
    exact Nat.ne_of_gt (Nat.mul_pos hA0 (Nat.mul_pos hG0 hB0))
end BallQ
namespace BallQ
structure Digit (u c y y1 y0 B qh rh : Nat) : Prop where
  up : qh * y1 + rh = u
  ge : (u * B + c) / y ≤ qh
theorem zdx {u c y y1 y0 B : Nat} (hy : y = y1 * B + y0) (_h1 : 0 < y1) (hc : c < B) : Digit u c y y1 y0 B (u / y1) (u % y1) := by
  refine ⟨by rw [Nat.mul_comm]; exact Nat.div_add_mod u y1, ?_⟩
  rw [Nat.le_div_iff_mul_le _h1]
  generalize hQ : (u * B + c) / y = Q
  have h := Nat.div_mul_le_self (u * B + c) y
  rw [hQ, hy, Nat.mul_add] at h
  have h2 : (Q * y1) * B ≤ u * B + c := by rw [← Nat.mul_assoc] at h; omega
  have hB : 0 < B := by omega
  rcases Nat.lt_or_ge u (Q * y1) with h3 | h3
  · have : (u + 1) * B ≤ (Q * y1) * B := Nat.mul_le_mul_right _ h3
    rw [Nat.add_mul] at this
    omega
  · exact h3
theorem zdQ {u c y y1 y0 B qh rh : Nat} (d : Digit u c y y1 y0 B qh rh) (hy : y = y1 * B + y0) (hyp : 0 < y) (hu : u < y) (hc : c < B) (h : B ≤ qh ∨ B * rh + c < qh * y0) : (u * B + c) / y < qh := by
  rcases h with h | h
  · have : (u * B + c) / y < B := by
      rw [Nat.div_lt_iff_lt_mul hyp]
      have : (u + 1) * B ≤ y * B := Nat.mul_le_mul_right _ hu
      rw [Nat.add_mul] at this
      have e : B * y = y * B := Nat.mul_comm _ _
      omega
    omega
  · rw [Nat.div_lt_iff_lt_mul hyp]
    have e1 : qh * y = (qh * y1) * B + qh * y0 := by rw [hy, Nat.mul_add, Nat.mul_assoc]
    have e2 : u * B = (qh * y1) * B + rh * B := by rw [← d.up, Nat.add_mul]
    have e3 : B * rh = rh * B := Nat.mul_comm _ _
    omega
theorem zdP {u c y y1 y0 B qh rh : Nat} (d : Digit u c y y1 y0 B qh rh) (h : (u * B + c) / y < qh) : Digit u c y y1 y0 B (qh - 1) (rh + y1) := by
  refine ⟨?_, Nat.le_sub_one_of_lt h⟩
  have := d.up
  have hq : 0 < qh := Nat.lt_of_le_of_lt (Nat.zero_le _) h
  clear h d
  obtain ⟨k, rfl⟩ : ∃ k, qh = k + 1 := ⟨qh - 1, by omega⟩
  rw [Nat.add_mul] at this
  simp; omega
theorem zdy {u c y y1 y0 B qh rh : Nat} (d : Digit u c y y1 y0 B qh rh) (hy : y = y1 * B + y0) (hyp : 0 < y) (h : qh * y0 ≤ B * rh + c) : qh = (u * B + c) / y := by
  apply Nat.le_antisymm _ d.ge
  rw [Nat.le_div_iff_mul_le hyp]
  have e1 : qh * y = (qh * y1) * B + qh * y0 := by rw [hy, Nat.mul_add, Nat.mul_assoc]
  have e2 : u * B = (qh * y1) * B + rh * B := by rw [← d.up, Nat.add_mul]
  have e3 : B * rh = rh * B := Nat.mul_comm _ _
  omega
theorem zeA {u c y y1 y0 B qh rh : Nat} (d : Digit u c y y1 y0 B qh rh) (hy : y = y1 * B + y0) (hyp : 0 < y) (h0 : y0 < B) (hq : qh ≤ B) (hr : B ≤ rh) : qh = (u * B + c) / y := by
  apply zdy d hy hyp
  have h1 : qh * y0 ≤ B * B := Nat.mul_le_mul hq (by omega)
  have h2 : B * B ≤ B * rh := Nat.mul_le_mul_left _ hr
  omega
theorem zdz {u y y1 y0 B : Nat} (hy : y = y1 * B + y0) (hu : u < y) (h0 : y0 < B) (h1 : B ≤ 2 * y1) (hp : 0 < y1) : u / y1 ≤ B + 1 := by
  have : u < (B + 2) * y1 := by
    have e : (B + 2) * y1 = y1 * B + 2 * y1 := by rw [Nat.add_mul, Nat.mul_comm]
    omega
  have := (Nat.div_lt_iff_lt_mul hp).2 this
  omega
theorem zfn {U y B u c1 c0 : Nat} (hyp : 0 < y) (hU : U = u * (B * B) + (c1 * B + c0)) :
    U / y = (u * B + c1) / y * B + (((u * B + c1) % y) * B + c0) / y ∧ U % y = (((u * B + c1) % y) * B + c0) % y := by
  have h1 := Nat.div_add_mod (u * B + c1) y
  generalize (u * B + c1) / y = q1 at *
  generalize (u * B + c1) % y = r1 at *
  have e : U = y * (q1 * B) + (r1 * B + c0) := by
    have : U = (u * B + c1) * B + c0 := by rw [hU]; grind
    rw [this, ← h1]; grind
  rw [e]
  constructor
  · rw [Nat.mul_add_div hyp]
  · rw [Nat.mul_add_mod]
end BallQ
