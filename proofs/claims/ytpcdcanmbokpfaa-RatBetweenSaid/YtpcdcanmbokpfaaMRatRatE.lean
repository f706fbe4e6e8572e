import Derived.Test.YtpcdcanmbokpfaaPRatx12
import Derived.Test.YtpcdcanmbokpfaaPRatx13
import Derived.Test.YtpcdcanmbokpfaaMRatRatD
namespace Go.Proofs.Ytpcdcanmbokpfaa.PRat
open Go Go.RowKit Go.Proofs.YtpcdcanmbokpfaaW.PrintWords Go.Proofs.YtpcdcanmbokpfaaW.PrintLast Go.Proofs.YtpcdcanmbokpfaaW.PrintMore
open BallQ (In64)
theorem shl_eq (x s : Nat) (hs : s ≤ 64) : shl .u64 (x : Int) (s : Int) = ((x * 2 ^ s % 18446744073709551616 : Nat) : Int) := by
  unfold shl
  have : min (s : Int).toNat (IntKind.u64.bits) = s := by simp [IntKind.bits]; omega
  rw [this, wu64]; simp
theorem or_eq {x y s : Nat} (hx : x * 2 ^ s < 18446744073709551616) (hy : y < 2 ^ s) (hs : s ≤ 64) : Go.bits .or .u64 ((x * 2 ^ s : Nat) : Int) (y : Int) = ((x * 2 ^ s + y : Nat) : Int) := by
  have hp : 2 ^ s ≤ 18446744073709551616 := Nat.pow_le_pow_right (n := 2) (by decide) hs
  have e : ((2 : Int) ^ s) = ((2 ^ s : Nat) : Int) := by simp
  have h1 : ((x * 2 ^ s : Nat) : Int) % 2 ^ s = 0 := by rw [e, ← Int.natCast_emod, Nat.mul_mod_left]; rfl
  have h2 : (y : Int) < 2 ^ s := by rw [e]; exact Int.ofNat_lt.2 hy
  have h3 : ((x * 2 ^ s : Nat) : Int) < 2 ^ 64 := Int.ofNat_lt.2 hx
  have h4 : (y : Int) < 2 ^ 64 := Int.ofNat_lt.2 (Nat.lt_of_lt_of_le hy hp)
  have := bits_join .u64 64 (by decide) wraps_u64 s ((x * 2 ^ s : Nat) : Int) (y : Int) (Int.natCast_nonneg _) h1 h3 (Int.natCast_nonneg _) h2 h4
  rw [this]; simp
theorem shift_parts {hi lo y p r : Nat} (hpp : r * p = 18446744073709551616) (h : hi < y) (hl : lo < 18446744073709551616) (sN : y * p < 18446744073709551616) :
    hi * p < 18446744073709551616 ∧ lo / r < p ∧ hi * p + lo / r < y * p ∧ (hi * 18446744073709551616 + lo) * p = (hi * p + lo / r) * 18446744073709551616 + lo * p % 18446744073709551616 := by
  have p0 : 0 < p := by rcases Nat.eq_zero_or_pos p with e | e; · subst e; simp at hpp
                        · exact e
  have r0 : 0 < r := by rcases Nat.eq_zero_or_pos r with e | e; · subst e; simp at hpp
                        · exact e
  have h1 : (hi + 1) * p ≤ y * p := Nat.mul_le_mul_right _ h
  rw [Nat.add_mul, Nat.one_mul] at h1
  have h2 : lo / r < p := by rw [Nat.div_lt_iff_lt_mul r0, Nat.mul_comm, hpp]; exact hl
  have a1 := Nat.div_add_mod (lo * p) 18446744073709551616
  have a2 : lo * p / 18446744073709551616 = lo / r := by rw [← hpp, Nat.mul_div_mul_right _ _ p0]
  rw [a2] at a1
  have a3 : (hi * 18446744073709551616 + lo) * p = hi * p * 18446744073709551616 + lo * p := by grind
  rw [a3]
  generalize hi * p = A at *
  generalize y * p = Y at *
  generalize lo * p = L at *
  generalize lo / r = D at *
  clear hpp a2 a3
  omega
theorem div64_norm {u L Y s : Nat} (s63 : s ≤ 63) (sN : Y < 18446744073709551616) (sL : 9223372036854775808 ≤ Y) (hu : u < Y) (hLm : L < 18446744073709551616) :
    Ev (fun k => bits_Div64.l0 k (Y : Int) (s : Int) ((Y / 4294967296 : Nat) : Int) ((Y % 4294967296 : Nat) : Int) (u : Int) ((L / 4294967296 : Nat) : Int) ((L % 4294967296 : Nat) : Int) ((u / (Y / 4294967296) : Nat) : Int) ((u % (Y / 4294967296) : Nat) : Int))
      ((((u * 18446744073709551616 + L) / Y : Nat) : Int), (((u * 18446744073709551616 + L) % Y / 2 ^ s : Nat) : Int)) := by
  have n : Norm Y (Y / 4294967296) (Y % 4294967296) := ⟨by omega, sL, sN, by omega⟩
  have hh := n.half
  have hY0 : 0 < Y := by omega
  have td := BallQ.two_digits (U := u * 18446744073709551616 + L) (y := Y) (B := 4294967296) (u := u) (c1 := L / 4294967296) (c0 := L % 4294967296) hY0 (by omega)
  rw [td.1, td.2]
  clear td
  have hQ : (u * 4294967296 + L / 4294967296) / Y < 4294967296 := by
    rw [Nat.div_lt_iff_lt_mul hY0]; omega
  have hR : (u * 4294967296 + L / 4294967296) % Y < Y := Nat.mod_lt _ hY0
  have hc1 : L / 4294967296 < 4294967296 := by omega
  have hc0 : L % 4294967296 < 4294967296 := by omega
  have hy1 : 0 < Y / 4294967296 := by omega
  have hy2 : Y / 4294967296 < 4294967296 := hh.2
  have b1 := BallQ.digit_bound n.e hu n.d0 (by omega) hy1
  have r1 : u % (Y / 4294967296) < Y / 4294967296 := Nat.mod_lt _ hy1
  refine l0_ev n hu hc1 ?_ 4294967296 _ _ (BallQ.digit_start n.e hy1 hc1) b1 (Nat.lt_trans r1 hy2) (Nat.le_add_left _ _)
  have rq := rest_eq (u := u) (c := L / 4294967296) (y := Y) rfl hY0 n.hi
  obtain ⟨v1, v2⟩ := sub_mul_eq (R := (u * 4294967296 + L / 4294967296) % Y) (y1 := Y / 4294967296) (Nat.lt_trans hR sN)
  refine Ev.step (fun k => by rw [bits_Div64.j2, rq, v1, v2]) (Ev_neg (by omega) ?_)
  have b2 := BallQ.digit_bound n.e hR n.d0 (by omega) hy1
  have r2 : (u * 4294967296 + L / 4294967296) % Y % (Y / 4294967296) < Y / 4294967296 := Nat.mod_lt _ hy1
  exact l1_ev n hR s63 hc0 hQ 4294967296 _ _ (BallQ.digit_start n.e hy1 hc0) b2 (Nat.lt_trans r2 hy2) (Nat.le_add_left _ _)
theorem div64_ev (hi lo y : Nat) (h : hi < y) (hy : y < 18446744073709551616) (hl : lo < 18446744073709551616) :
    Ev (fun k => bits_Div64.f k (hi : Int) (lo : Int) (y : Int)) ((((hi * 18446744073709551616 + lo) / y : Nat) : Int), (((hi * 18446744073709551616 + lo) % y : Nat) : Int)) := by
  unfold bits_Div64.f
  refine Ev_neg (by omega) (Ev_neg (by omega) ?_)
  by_cases h0 : hi = 0
  · subst h0
    refine Ev_pos rfl (Ev_some fun _ => ?_)
    rw [Nat.zero_mul, Nat.zero_add, (sub_mul_eq hl).1, Int.tmod_eq_emod_of_nonneg (by omega)]
    rfl
  · refine Ev_neg (by omega) ?_
    obtain ⟨s, hz, s63, sN, sL⟩ := zeros_ev y (by omega) hy
    refine Ev.bind hz ?_
    clear hz h0
    have es : IntKind.u64.wrap (s : Int) = (s : Int) := by rw [wu64]; clear sN sL; omega
    have es2 : IntKind.u64.wrap (64 - (s : Int)) = ((64 - s : Nat) : Int) := by rw [wu64]; clear sN sL; omega
    have s64 : s ≤ 64 := Nat.le_trans s63 (by decide)
    have p1 : 0 < 2 ^ s := Nat.pow_pos (by decide)
    have pp : 2 ^ (64 - s) * 2 ^ s = 18446744073709551616 := by rw [← Nat.pow_add, Nat.sub_add_cancel s64]
    obtain ⟨k1, k2, k3, k4⟩ := shift_parts pp h hl sN
    have eY : shl .u64 (y : Int) (s : Int) = ((y * 2 ^ s : Nat) : Int) := by rw [shl_eq _ _ s64, Nat.mod_eq_of_lt sN]
    have eH : shl .u64 (hi : Int) (s : Int) = ((hi * 2 ^ s : Nat) : Int) := by rw [shl_eq _ _ s64, Nat.mod_eq_of_lt k1]
    have eL : shl .u64 (lo : Int) (s : Int) = ((lo * 2 ^ s % 18446744073709551616 : Nat) : Int) := shl_eq _ _ s64
    have eR : shr .u64 (lo : Int) ((64 - s : Nat) : Int) = ((lo / 2 ^ (64 - s) : Nat) : Int) := shr_eq _ _ (Nat.sub_le _ _)
    have eO := or_eq k1 k2 s64
    have hLm : lo * 2 ^ s % 18446744073709551616 < 18446744073709551616 := Nat.mod_lt _ (by decide)
    rw [es, es2, eY, eH, eL, eR, eO, and32 _ sN, and32 _ hLm]
    have eq1 : (hi * 18446744073709551616 + lo) / y = (hi * 18446744073709551616 + lo) * 2 ^ s / (y * 2 ^ s) := by rw [Nat.mul_div_mul_right _ _ p1]
    have eq2 : (hi * 18446744073709551616 + lo) % y = (hi * 18446744073709551616 + lo) * 2 ^ s % (y * 2 ^ s) / 2 ^ s := by
      rw [Nat.mul_mod_mul_right, Nat.mul_div_cancel _ p1]
    rw [eq1, eq2, k4]
    clear eq1 eq2 k4 k1 k2 pp p1 eO eR eL eH eY es es2 h hl
    generalize hi * 2 ^ s + lo / 2 ^ (64 - s) = u at *
    generalize lo * 2 ^ s % 18446744073709551616 = L at *
    generalize y * 2 ^ s = Y at *
    have ey1 : (Y : Int) / 4294967296 = ((Y / 4294967296 : Nat) : Int) := by omega
    have eL1 : (L : Int) / 4294967296 = ((L / 4294967296 : Nat) : Int) := by omega
    refine Ev_pos (by omega) (Ev_pos (by omega) ?_)
    rw [ey1, eL1]
    refine Ev_neg (by omega) ?_
    obtain ⟨q1, q2⟩ := sub_mul_eq (R := u) (y1 := Y / 4294967296) (by omega)
    rw [q1, q2]
    exact div64_norm s63 sN sL k3 hLm
theorem rem64_ev (hi lo y : Nat) (h0 : 0 < y) (hy : y < 18446744073709551616) (hl : lo < 18446744073709551616) :
    Ev (fun k => bits_Rem64.f k (hi : Int) (lo : Int) (y : Int)) (((hi * 18446744073709551616 + lo) % y : Nat) : Int) := by
  unfold bits_Rem64.f
  refine Ev_neg (by omega) ?_
  have e : Int.tmod (hi : Int) (y : Int) = ((hi % y : Nat) : Int) := by rw [Int.tmod_eq_emod_of_nonneg (by omega)]; rfl
  rw [e]
  refine Ev.bind (div64_ev (hi % y) lo y (Nat.mod_lt _ h0) hy hl) (Ev_some fun _ => ?_)
  have : (hi % y * 18446744073709551616 + lo) % y = (hi * 18446744073709551616 + lo) % y := by
    rw [Nat.add_mod, Nat.mul_mod, Nat.mod_mod, ← Nat.mul_mod, ← Nat.add_mod]
  rw [this]
end Go.Proofs.Ytpcdcanmbokpfaa.PRat
