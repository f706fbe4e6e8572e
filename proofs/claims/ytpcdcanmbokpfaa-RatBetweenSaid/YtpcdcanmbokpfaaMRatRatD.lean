import Derived.Test.YtpcdcanmbokpfaaPRatx12
import Derived.Test.YtpcdcanmbokpfaaMRatRatC
import Derived.Test.YtpcdcanmbokpfaaMRatKnuthT
namespace Go.Proofs.Ytpcdcanmbokpfaa.PRat
open Go Go.RowKit Go.Proofs.YtpcdcanmbokpfaaW.PrintWords Go.Proofs.YtpcdcanmbokpfaaW.PrintLast Go.Proofs.YtpcdcanmbokpfaaW.PrintMore
open BallQ (In64)
theorem u64n (a : Nat) (h : a < 18446744073709551616) : IntKind.u64.wrap (a : Int) = (a : Int) := by rw [wu64]; omega
/-- What is known of a divisor: normal, two digits. -/
structure Norm (y y1 y0 : Nat) : Prop where
  e : y = y1 * 4294967296 + y0
  lo : 9223372036854775808 ≤ y
  hi : y < 18446744073709551616
  d0 : y0 < 4294967296
theorem Norm.half {y y1 y0 : Nat} (n : Norm y y1 y0) : 2147483648 ≤ y1 ∧ y1 < 4294967296 := by
  have := n.e; have := n.lo; have := n.hi; have := n.d0; omega
/-- The test of a trial digit, as the code asks it. -/
theorem test_eq {q y0 rh c : Nat} (hq : q < 4294967296) (hy0 : y0 < 4294967296) (hr : rh < 4294967296) (hc : c < 4294967296) :
    decide ((IntKind.u64.wrap ((q : Int) * (y0 : Int))) > (IntKind.u64.wrap ((IntKind.u64.wrap (4294967296 * (rh : Int))) + (c : Int)))) = decide (4294967296 * rh + c < q * y0) := by
  have m := mul_lt hq hy0
  have e1 : IntKind.u64.wrap ((q : Int) * (y0 : Int)) = ((q * y0 : Nat) : Int) := by rw [wu64, ← Int.natCast_mul]; omega
  have e2 : IntKind.u64.wrap (4294967296 * (rh : Int)) = ((4294967296 * rh : Nat) : Int) := by rw [wu64]; omega
  have e3 : IntKind.u64.wrap (((4294967296 * rh : Nat) : Int) + (c : Int)) = ((4294967296 * rh + c : Nat) : Int) := by rw [wu64]; omega
  rw [e1, e2, e3, decide_eq_decide]
  omega
theorem l0_ev {y s y1 y0 u c1 c0 : Nat} (n : Norm y y1 y0) (hu : u < y) (hc : c1 < 4294967296) {r : Int × Int}
    (H : Ev (fun k => bits_Div64.j2 k (y : Int) (s : Int) (y1 : Int) (y0 : Int) (u : Int) (c1 : Int) (c0 : Int) (((u * 4294967296 + c1) / y : Nat) : Int)) r) (d : Nat) :
    ∀ (qh rh : Nat), BallQ.Digit u c1 y y1 y0 4294967296 qh rh → qh ≤ 4294967297 → rh < 4294967296 → 4294967296 ≤ rh + d →
    Ev (fun k => bits_Div64.l0 k (y : Int) (s : Int) (y1 : Int) (y0 : Int) (u : Int) (c1 : Int) (c0 : Int) (qh : Int) (rh : Int)) r := by
  induction d with
  | zero => intro qh rh _ _ h1 h2; omega
  | succ d ih =>
    intro qh rh D hq hr hd
    have hh := n.half
    have hy0 : 0 < y := by have := n.lo; omega
    have hd0 := n.d0
    have up : (4294967296 ≤ qh ∨ 4294967296 * rh + c1 < qh * y0) → Ev (fun k => bits_Div64.j1 k (y : Int) (s : Int) (y1 : Int) (y0 : Int) (u : Int) (c1 : Int) (c0 : Int) (qh : Int) (rh : Int) true) r := by
      intro h
      have hm := BallQ.digit_more D n.e hy0 hu hc h
      have D' := BallQ.digit_step D hm
      have hq0 : 0 < qh := Nat.lt_of_le_of_lt (Nat.zero_le _) hm
      clear hm h
      have e1 : IntKind.u64.wrap ((rh : Int) + (y1 : Int)) = ((rh + y1 : Nat) : Int) := by rw [wu64]; omega
      have e2 : IntKind.u64.wrap ((qh : Int) - 1) = ((qh - 1 : Nat) : Int) := by rw [wu64]; omega
      refine Ev.step (fun k => by rw [bits_Div64.j1, e1, e2]) (Ev_pos rfl ?_)
      by_cases hf : 4294967296 ≤ rh + y1
      · refine Ev_pos (by omega) ?_
        rw [BallQ.digit_far D' n.e hy0 hd0 (by omega) hf]
        exact H
      · exact Ev_neg (by omega) (ih (qh - 1) (rh + y1) D' (by omega) (by omega) (by omega))
    refine Ev.step (fun k => by rw [bits_Div64.l0]) ?_
    by_cases hb : 4294967296 ≤ qh
    · exact Ev_pos (by omega) (up (.inl hb))
    · refine Ev_neg (by omega) ?_
      rw [test_eq (by omega) hd0 hr hc]
      by_cases ht : 4294967296 * rh + c1 < qh * y0
      · rw [decide_eq_true ht]; exact up (.inr ht)
      · rw [decide_eq_false ht]
        refine Ev.step (fun k => by rw [bits_Div64.j1]) (Ev_neg (by simp) ?_)
        rw [BallQ.digit_end D n.e hy0 (by omega)]
        exact H
/-- What is left of a number when a digit's part is taken off, all modulo 2^64. -/
theorem rest_eq {u c y Q : Nat} (hQ : Q = (u * 4294967296 + c) / y) (hy : 0 < y) (hy1 : y < 18446744073709551616) :
    IntKind.u64.wrap ((IntKind.u64.wrap ((IntKind.u64.wrap ((u : Int) * 4294967296)) + (c : Int))) - (IntKind.u64.wrap ((Q : Int) * (y : Int)))) = (((u * 4294967296 + c) % y : Nat) : Int) := by
  have h := Nat.div_add_mod (u * 4294967296 + c) y
  have hlt := Nat.mod_lt (u * 4294967296 + c) hy
  rw [← hQ, Nat.mul_comm] at h
  rw [wu64, wu64, wu64, wu64, ← Int.natCast_mul Q y]
  generalize Q * y = p at *
  generalize (u * 4294967296 + c) % y = R at *
  clear hQ
  omega
theorem sub_mul_eq {R y1 : Nat} (hR : R < 18446744073709551616) :
    IntKind.u64.wrap (Int.tdiv (R : Int) (y1 : Int)) = ((R / y1 : Nat) : Int) ∧ IntKind.u64.wrap ((R : Int) - (IntKind.u64.wrap (((R / y1 : Nat) : Int) * (y1 : Int)))) = ((R % y1 : Nat) : Int) := by
  have h := Nat.div_add_mod R y1
  have hd : R / y1 ≤ R := Nat.div_le_self R y1
  constructor
  · rw [Int.tdiv_eq_ediv_of_nonneg (by omega), ← Int.natCast_ediv, wu64]
    generalize R / y1 = v at *
    omega
  · rw [wu64, wu64, ← Int.natCast_mul, Nat.mul_comm (R / y1) y1]
    generalize y1 * (R / y1) = p at *
    generalize R % y1 = m at *
    omega
theorem shr_eq (x s : Nat) (hs : s ≤ 64) : shr .u64 (x : Int) (s : Int) = ((x / 2 ^ s : Nat) : Int) := by
  unfold shr
  have : min (s : Int).toNat (IntKind.u64.bits) = s := by simp [IntKind.bits]; omega
  rw [this]; simp
theorem l1_ev {y s y1 y0 R c0 Q1 : Nat} (n : Norm y y1 y0) (hu : R < y) (hs : s ≤ 63) (hc : c0 < 4294967296) (hQ : Q1 < 4294967296) (d : Nat) :
    ∀ (qh rh : Nat), BallQ.Digit R c0 y y1 y0 4294967296 qh rh → qh ≤ 4294967297 → rh < 4294967296 → 4294967296 ≤ rh + d →
    Ev (fun k => bits_Div64.l1 k (y : Int) (s : Int) (y1 : Int) (y0 : Int) (c0 : Int) (Q1 : Int) (rh : Int) (R : Int) (qh : Int)) (((Q1 * 4294967296 + (R * 4294967296 + c0) / y : Nat) : Int), (((R * 4294967296 + c0) % y / 2 ^ s : Nat) : Int)) := by
  have hy0 : 0 < y := by have := n.lo; omega
  have hlt : (R * 4294967296 + c0) / y < 4294967296 := by
    rw [Nat.div_lt_iff_lt_mul hy0]
    omega
  have fin : ∀ qh : Nat, qh = (R * 4294967296 + c0) / y → (some (IntKind.u64.wrap ((IntKind.u64.wrap ((Q1 : Int) * 4294967296)) + (qh : Int)), shr .u64 (IntKind.u64.wrap ((IntKind.u64.wrap ((IntKind.u64.wrap ((R : Int) * 4294967296)) + (c0 : Int))) - (IntKind.u64.wrap ((qh : Int) * (y : Int))))) (s : Int)) : Option (Int × Int)) =
      some (((Q1 * 4294967296 + (R * 4294967296 + c0) / y : Nat) : Int), (((R * 4294967296 + c0) % y / 2 ^ s : Nat) : Int)) := by
    intro qh hq
    rw [rest_eq hq hy0 n.hi, shr_eq _ _ (by omega), hq]
    generalize (R * 4294967296 + c0) / y = v at *
    congr 2
    rw [wu64, wu64]; omega
  induction d with
  | zero => intro qh rh _ _ h1 h2; omega
  | succ d ih =>
    intro qh rh D hq hr hd
    have hh := n.half
    have hd0 := n.d0
    have up : (4294967296 ≤ qh ∨ 4294967296 * rh + c0 < qh * y0) → Ev (fun k => bits_Div64.j4 k (y : Int) (s : Int) (y1 : Int) (y0 : Int) (c0 : Int) (Q1 : Int) (rh : Int) (R : Int) (qh : Int) true) (((Q1 * 4294967296 + (R * 4294967296 + c0) / y : Nat) : Int), (((R * 4294967296 + c0) % y / 2 ^ s : Nat) : Int)) := by
      intro h
      have hm := BallQ.digit_more D n.e hy0 hu hc h
      have D' := BallQ.digit_step D hm
      have hq0 : 0 < qh := Nat.lt_of_le_of_lt (Nat.zero_le _) hm
      clear hm h hlt
      have e1 : IntKind.u64.wrap ((rh : Int) + (y1 : Int)) = ((rh + y1 : Nat) : Int) := by rw [wu64]; omega
      have e2 : IntKind.u64.wrap ((qh : Int) - 1) = ((qh - 1 : Nat) : Int) := by rw [wu64]; omega
      refine Ev.step (fun k => by rw [bits_Div64.j4, e1, e2]) (Ev_pos rfl ?_)
      by_cases hf : 4294967296 ≤ rh + y1
      · refine Ev_pos (by omega) (Ev_pos (by omega) (Ev_some fun _ => ?_))
        exact fin _ (BallQ.digit_far D' n.e hy0 hd0 (by omega) hf)
      · exact Ev_neg (by omega) (ih (qh - 1) (rh + y1) D' (by omega) (by omega) (by omega))
    refine Ev.step (fun k => by rw [bits_Div64.l1]) ?_
    by_cases hb : 4294967296 ≤ qh
    · exact Ev_pos (by omega) (up (.inl hb))
    · refine Ev_neg (by omega) ?_
      rw [test_eq (by omega) hd0 hr hc]
      by_cases ht : 4294967296 * rh + c0 < qh * y0
      · rw [decide_eq_true ht]; exact up (.inr ht)
      · rw [decide_eq_false ht]
        refine Ev.step (fun k => by rw [bits_Div64.j4]) (Ev_neg (by simp) (Ev_pos (by omega) (Ev_some fun _ => ?_)))
        exact fin _ (BallQ.digit_end D n.e hy0 (by omega))
end Go.Proofs.Ytpcdcanmbokpfaa.PRat
