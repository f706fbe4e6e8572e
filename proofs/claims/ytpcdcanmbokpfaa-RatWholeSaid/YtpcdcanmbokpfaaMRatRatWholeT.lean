import Derived.Test.YtpcdcanmbokpfaaPRatx31
import Derived.Test.YtpcdcanmbokpfaaMRatRatT
namespace Go.Proofs.Ytpcdcanmbokpfaa.PRat
open Go Go.RowKit Go.Proofs.YtpcdcanmbokpfaaW.PrintWords Go.Proofs.YtpcdcanmbokpfaaW.PrintLast Go.Proofs.YtpcdcanmbokpfaaW.PrintMore
open BallQ (In64 Right q out fits put)
namespace Whole
theorem whole (a : Int) (h : a.natAbs < 9223372036854775808) : fits (a : Rat) ∧ (a : Rat).num = a ∧ (a : Rat).den = 1 := by
  refine ⟨⟨?_, ?_⟩, Rat.num_intCast a, Rat.den_intCast a⟩
  · rw [Rat.num_intCast]; exact h
  · rw [Rat.den_intCast]; decide
theorem out_whole (a : Int) (h : a.natAbs < 9223372036854775808) : out (a : Rat) = (a, 1, 0) := by
  rw [out_ok (whole a h).1, (whole a h).2.1, (whole a h).2.2]; rfl
theorem prod_small {a b : Int} (h1 : a.natAbs ≤ 2147483648) (h2 : b.natAbs ≤ 2147483648) : (a * b).natAbs ≤ 4611686018427387904 := by
  rw [Int.natAbs_mul]
  exact Nat.mul_le_mul h1 h2
theorem wf32 {a : Int} (h : (Lit.int .i32 a).wf = true) : a.natAbs ≤ 2147483648 := by
  simp [Lit.wf, IntKind.min, IntKind.max, IntKind.signed, IntKind.bits] at h
  omega
theorem wf8 {a : Int} (h : (Lit.int .u8 a).wf = true) : 0 ≤ a ∧ a ≤ 255 := by
  simp [Lit.wf, IntKind.min, IntKind.max, IntKind.signed, IntKind.bits] at h
  omega
theorem w64' {x : Int} (h : x.natAbs ≤ 9223372036854775807) : wrap64 x = x := w64 (by omega) (by omega)
theorem in' {x : Int} (h : x.natAbs ≤ 9223372036854775807) : In64 x := ⟨by omega, by omega⟩
theorem new_whole (a k : Int) (hk : 0 < k) : newS (a * k) k = out (a : Rat) := by
  unfold newS
  rw [if_neg (by omega)]
  congr 1
  rw [Rat.divInt_eq_div, Rat.intCast_mul, Rat.div_def, Rat.mul_assoc, Rat.mul_inv_cancel _ (by
    intro e
    have : ((k : Int) : Rat) = ((0 : Int) : Rat) := e
    have := Rat.intCast_inj.mp this
    omega), Rat.mul_one]
theorem pure_holds (a0 a1 a2 : Int) (h1 : (Lit.int .i32 a0).wf = true) (h2 : (Lit.int .i32 a1).wf = true) (h3 : (Lit.int .u8 a2).wf = true) : ∃ k, ballcocklaw01_RatWhole.f k a0 a1 a2 = some true := by
  apply Ev.rounds
  have i1 := wf32 h1; have i2 := wf32 h2; obtain ⟨i3, i4⟩ := wf8 h3
  clear h1 h2 h3
  have p1 := prod_small i1 i2
  have p2 : (a0 * (1 + a2)).natAbs ≤ 4611686018427387904 := prod_small i1 (by omega)
  have wa := w64' (x := a0) (by omega)
  have wb := w64' (x := a1) (by omega)
  have wc := w64' (x := a2) (by omega)
  have wd := w64' (x := 1 + a2) (by omega)
  have ws := w64' (x := a0 + a1) (by omega)
  have wp := w64' (x := a0 * a1) (Nat.le_trans p1 (by decide))
  have wn := w64' (x := a0 * (1 + a2)) (Nat.le_trans p2 (by decide))
  have n1 := in' (x := a0) (by omega)
  have n2 := in' (x := a1) (by omega)
  have n3 := in' (x := 1) (by decide)
  have n4 := in' (x := a0 * (1 + a2)) (Nat.le_trans p2 (by decide))
  have n5 := in' (x := 1 + a2) (by omega)
  obtain ⟨f1, u1, d1⟩ := whole a0 (by omega)
  obtain ⟨f2, u2, d2⟩ := whole a1 (by omega)
  have sA := add_ev a0 1 a1 1 n1 n3 n2 n3
  have sM := mul_ev a0 1 a1 1 n1 n3 n2 n3
  have sN := new_ev (a0 * (1 + a2)) (1 + a2) n4 n5
  have sC := compare_ev a0 1 a1 1 n1 n3 n2 n3
  have eA := addS_fits f1 f2
  have eM := mulS_fits f1 f2
  have eC := cmpS_fits f1 f2
  rw [u1, u2, d1, d2] at eA eM eC
  rw [← Rat.intCast_add, out_whole _ (by omega)] at eA
  rw [← Rat.intCast_mul, out_whole _ (Nat.lt_of_le_of_lt p1 (by decide))] at eM
  have eN := new_whole a0 (1 + a2) (by omega)
  rw [out_whole _ (by omega)] at eN
  unfold ballcocklaw01_RatWhole.f
  rw [wa, wb, wc, wd, ws, wp, wn]
  have sA' := Ev_cast sA eA
  have sM' := Ev_cast sM eM
  have sN' := Ev_cast sN eN
  have sC' := Ev_cast sC eC
  refine Ev.bind awake_ev (Ev_pos rfl (Ev.bind sA' (Ev.bind sM' (Ev.bind sN' ?_))))
  have lt : (a0 : Rat) < (a1 : Rat) ↔ a0 < a1 := Rat.intCast_lt_intCast
  have eq : (a0 : Rat) = (a1 : Rat) ↔ a0 = a1 := Rat.intCast_inj
  unfold cmpQ at sC'
  simp only [lt, eq] at sC'
  by_cases c1 : a0 < a1
  · rw [if_pos c1] at sC'
    exact Ev_pos c1 (Ev_pos (by simp) (Ev_pos (by simp) (Ev_pos (by simp) (Ev_pos rfl (Ev.bind sC' (Ev.now _))))))
  · rw [if_neg c1] at sC'
    refine Ev_neg c1 ?_
    by_cases c2 : a0 = a1
    · rw [if_pos c2] at sC'
      exact Ev_neg (by omega) (Ev_pos (by simp) (Ev_pos (by simp) (Ev_pos (by simp) (Ev_pos rfl (Ev.bind sC' (Ev.now _))))))
    · rw [if_neg c2] at sC'
      exact Ev_pos (by omega) (Ev_pos (by simp) (Ev_pos (by simp) (Ev_pos (by simp) (Ev_pos rfl (Ev.bind sC' (Ev.now _))))))
end Whole
end Go.Proofs.Ytpcdcanmbokpfaa.PRat
