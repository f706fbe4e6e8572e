import Derived.Test.YtpcdcanmbokpfaaPRatx20
import Derived.Test.YtpcdcanmbokpfaaMRatRatH
namespace Go.Proofs.Ytpcdcanmbokpfaa.PRat
open Go Go.RowKit Go.Proofs.YtpcdcanmbokpfaaW.PrintWords Go.Proofs.YtpcdcanmbokpfaaW.PrintLast Go.Proofs.YtpcdcanmbokpfaaW.PrintMore
open BallQ (In64 Right q out fits put)
theorem half_cmp (x y : Rat) : cmpQ x ((x + y) * (1 / 2)) = cmpQ x y ∧ cmpQ ((x + y) * (1 / 2)) y = cmpQ x y := by
  have e1 : x < (x + y) * (1 / 2) ↔ x < y := by constructor <;> intro h <;> grind
  have e2 : x = (x + y) * (1 / 2) ↔ x = y := by constructor <;> intro h <;> grind
  have e3 : (x + y) * (1 / 2) < y ↔ x < y := by constructor <;> intro h <;> grind
  have e4 : (x + y) * (1 / 2) = y ↔ x = y := by constructor <;> intro h <;> grind
  unfold cmpQ
  simp only [e1, e2, e3, e4, and_self]
theorem half_fits : fits (1 / 2 : Rat) ∧ (1 / 2 : Rat).num = 1 ∧ (1 / 2 : Rat).den = 2 := by decide +kernel
theorem pure_holds (a0 a1 b0 b1 : Int) (h1 : (Lit.int .i64 a0).wf = true) (h2 : (Lit.int .i64 a1).wf = true) (h3 : (Lit.int .i64 b0).wf = true) (h4 : (Lit.int .i64 b1).wf = true) : ∃ k, ballcocklaw01_RatBetween.f k a0 a1 b0 b1 = some true := by
  apply Ev.rounds
  have i1 := in_of_wf h1; have i2 := in_of_wf h2; have i3 := in_of_wf h3; have i4 := in_of_wf h4
  have bad : Ev (fun k => ballcocklaw01_RatBetween.j0 k true a0 a1 b0 b1) true := Ev.step (fun k => by rw [ballcocklaw01_RatBetween.j0]) (Ev_pos rfl (Ev.bind awake_ev (Ev.now _)))
  unfold ballcocklaw01_RatBetween.f
  refine Ev.bind awake_ev (Ev_pos rfl (Ev.bind (right_ev a0 a1 i1 i2) ?_))
  by_cases ra : Right a0 a1
  · refine Ev_pos (decide_eq_true ra) (Ev.bind (right_ev b0 b1 i3 i4) ?_)
    by_cases rb : Right b0 b1
    · rw [decide_eq_true rb]
      obtain ⟨x, hx, rfl, rfl⟩ := right_rat ra i1 i2
      obtain ⟨y, hy, rfl, rfl⟩ := right_rat rb i3 i4
      refine Ev.step (fun k => by rw [ballcocklaw01_RatBetween.j0]) (Ev_neg (by simp) ?_)
      refine Ev.bind (Ev_cast (add_ev _ _ _ _ i1 i2 i3 i4) (addS_fits hx hy)) ?_
      by_cases hs : fits (x + y)
      · rw [out_ok hs]
        have is := BallQ.right_fits hs
        obtain ⟨hf, hn, hd⟩ := half_fits
        have hm := mul_ev (x + y).num (x + y).den 1 2 is.2.1 is.2.2 ⟨by decide, by decide⟩ ⟨by decide, by decide⟩
        have e := mulS_fits hs hf
        rw [hn, hd] at e
        refine Ev_pos rfl (Ev.bind (Ev_cast hm e) ?_)
        by_cases hp : fits ((x + y) * (1 / 2))
        · rw [out_ok hp]
          have ip := BallQ.right_fits hp
          have c1 := Ev_cast (compare_ev _ _ _ _ i1 i2 ip.2.1 ip.2.2) (cmpS_fits hx hp)
          have c2 := Ev_cast (compare_ev _ _ _ _ i1 i2 i3 i4) (cmpS_fits hx hy)
          have c3 := Ev_cast (compare_ev _ _ _ _ ip.2.1 ip.2.2 i3 i4) (cmpS_fits hp hy)
          obtain ⟨k1, k2⟩ := half_cmp x y
          rw [k1] at c1
          rw [k2] at c3
          refine Ev_pos rfl (Ev.bind c1 (Ev.bind c2 (Ev_pos rfl (Ev.bind c3 (Ev.bind c2 (Ev_some fun _ => ?_))))))
          simp
        · rw [out_over hp]
          exact Ev_neg (by simp) (Ev.now _)
      · rw [out_over hs]
        exact Ev_neg (by simp) (Ev.now _)
    · rw [decide_eq_false rb]; exact bad
  · exact Ev_neg (by simpa using ra) bad
end Go.Proofs.Ytpcdcanmbokpfaa.PRat
