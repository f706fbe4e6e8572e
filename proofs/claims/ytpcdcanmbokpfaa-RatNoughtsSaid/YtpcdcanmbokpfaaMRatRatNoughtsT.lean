import Derived.Test.YtpcdcanmbokpfaaPRatx29
import Derived.Test.YtpcdcanmbokpfaaMRatRatT
namespace Go.Proofs.Ytpcdcanmbokpfaa.PRat
open Go Go.RowKit Go.Proofs.YtpcdcanmbokpfaaW.PrintWords Go.Proofs.YtpcdcanmbokpfaaW.PrintLast Go.Proofs.YtpcdcanmbokpfaaW.PrintMore
open BallQ (In64 Right q out fits put)
namespace Noughts
theorem consts : fits (0 : Rat) ∧ (0 : Rat).num = 0 ∧ (0 : Rat).den = 1 ∧ fits (1 : Rat) ∧ (1 : Rat).num = 1 ∧ (1 : Rat).den = 1 := by decide +kernel
theorem in01 : In64 0 ∧ In64 1 := by unfold BallQ.In64; omega
theorem pure_holds (a0 a1 : Int) (h1 : (Lit.int .i64 a0).wf = true) (h2 : (Lit.int .i64 a1).wf = true) : ∃ k, ballcocklaw01_RatNoughts.f k a0 a1 = some true := by
  apply Ev.rounds
  have i1 := in_of_wf h1; have i2 := in_of_wf h2
  have bad : Ev (fun k => ballcocklaw01_RatNoughts.j0 k true a0 a1) true := Ev.step (fun k => by rw [ballcocklaw01_RatNoughts.j0]) (Ev_pos rfl (Ev.bind awake_ev (Ev.now _)))
  unfold ballcocklaw01_RatNoughts.f
  refine Ev.bind awake_ev (Ev_pos rfl (Ev.bind (right_ev a0 a1 i1 i2) ?_))
  by_cases ra : Right a0 a1
  · rw [decide_eq_true ra]
    clear bad
    obtain ⟨x, hx, rfl, rfl⟩ := right_rat ra i1 i2
    obtain ⟨z0, z1, z2, o0, o1, o2⟩ := consts
    obtain ⟨n0, n1⟩ := in01
    have eA := addS_fits hx z0
    have eM := mulS_fits hx o0
    have eZ := mulS_fits hx z0
    rw [z1, z2] at eA eZ
    rw [o1, o2] at eM
    have eS : subS x.num x.den x.num x.den = (0, 1, 0) := by
      unfold subS
      rw [if_pos ⟨ra, ra⟩, BallQ.q_self, Rat.sub_self, out_zero]
    rw [Rat.add_zero, out_ok hx] at eA
    rw [Rat.mul_one, out_ok hx] at eM
    rw [Rat.mul_zero, out_zero] at eZ
    have sA := Ev_cast (add_ev _ _ 0 1 i1 i2 n0 n1) eA
    have sM := Ev_cast (mul_ev _ _ 1 1 i1 i2 n1 n1) eM
    have sS := Ev_cast (sub_ev' _ _ _ _ i1 i2 i1 i2) eS
    have sZ := Ev_cast (mul_ev _ _ 0 1 i1 i2 n0 n1) eZ
    have sD := div_ev _ _ _ _ i1 i2 i1 i2
    have fin : ∀ r : Int × Int × Int, divS x.num x.den x.num x.den = r → Ev (fun k => ballcocklaw01_RatNoughts.j1 k r.2.2 false x.num x.den 1 1 r.1 r.2.1) true → Ev (fun k => ballcocklaw01_RatNoughts.j0 k (!true) x.num x.den) true := by
      intro r hr H
      refine Ev.step (fun k => by rw [ballcocklaw01_RatNoughts.j0]) (Ev_neg (by simp) ?_)
      refine Ev.bind sA (Ev.bind sM (Ev.bind sS (Ev.bind (Ev_cast sD hr) (Ev.bind sZ ?_))))
      exact Ev_neg (by simp) (Ev_neg (by simp) (Ev_neg (by simp) (Ev_neg (by simp) (Ev_pos rfl (Ev_pos rfl (Ev_pos rfl H))))))
    by_cases hz : x.num = 0
    · refine fin (0, 0, 2) ?_ ?_
      · unfold divS
        rw [if_neg (fun h => h.2 hz)]
      · exact Ev.step (fun k => by rw [ballcocklaw01_RatNoughts.j1]) (Ev_neg (by simp) (Ev_pos hz (Ev_pos rfl (Ev.now _))))
    · have hx0 : x ≠ 0 := by intro e; apply hz; rw [e]; rfl
      refine fin (1, 1, 0) ?_ ?_
      · unfold divS
        rw [if_pos ⟨⟨ra, ra⟩, hz⟩, BallQ.q_self, Rat.div_def, Rat.mul_inv_cancel _ hx0, out_ok o0, o1, o2]
        rfl
      · exact Ev.step (fun k => by rw [ballcocklaw01_RatNoughts.j1]) (Ev_neg (by simp) (Ev_neg hz (Ev_pos rfl (Ev_some fun _ => by decide))))
  · rw [decide_eq_false ra]
    exact bad
end Noughts
end Go.Proofs.Ytpcdcanmbokpfaa.PRat
